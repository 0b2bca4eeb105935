/-
  rostrumlaw16.ModelOrder: what it computes.
-/
import Derived.Test.YtfnchpjiebojiaaPlainM2
import Derived.Test.YtfnchpjiebojiaaShown
import Derived.Test.YtfnchpjiebojiaaFew
namespace Go.Proofs.Ytfnchpjiebojiaa
open Go.RowKit
attribute [local go_sem] Oper.semAt_some

def OrdP (w : World) (e : Ending) (w' : World) : Prop := e = .returned (.bool true) ∧ Ext w w'
def nxF (σ : MSt) : Nat → Value := fun i => .int .u32 (nx σ (i / 16) ((i % 16 : Nat) : Int))
theorem run_zero_of {P : Program} {t : TypeId} {z : Value} {a b : Nat} (h : (P.info? t).map (fun i => (i.zero, i.size, i.bytes)) = some (some z, a, b)) (w : World) : (zeroValue t).run P w = .ok z w := by
  obtain ⟨i, hi, hz, _⟩ := info_parts h
  simp [zeroValue, run_typeInfo w hi, hz]
theorem infoNext : (Try.prog.info? 40).map (fun i => (i.zero, i.size, i.bytes)) = some (some (.agg (Array.replicate 256 (.int .u32 0))), 256, 1024) := by kernel_rfl
theorem run_allocNext (w : World) : (Instr.alloc 40 true (.tuple #[])).run Try.prog w = .ok (.pointer (some ⟨w.heap.size, 0, none⟩)) (w.alloc (.cells (Array.replicate 256 (.int .u32 0)) 40)) := by
  simp [go_sem, run_zero_of infoNext]
theorem box_next (w : World) (n : Nat) : Obj_ (w.alloc (.cells (Array.replicate 256 (.int .u32 0)) 40)) w.heap.size 256 (nxF (st0 n)) := by
  have h := Obj_.new w 40 (Array.replicate 256 (.int .u32 0)) (nxF (st0 n)) (fun i hi => by
    rw [Array.size_replicate] at hi
    rw [Array.getElem?_replicate, if_pos hi]
    simp [nxF, nx, st0, cnt])
  rwa [Array.size_replicate] at h

theorem stepAt_allocNext {a : Act} {d : Option Tmp} {t : TypeId} {s : String} {af : Array Edge} {g : Option (Nat × Bool)} {W w : World} (n : Nat) (hC : Ext W w) : stepAt Try.prog ⟨d, .alloc 40, t, s, af, g⟩ a w (fun u w' => ∃ b, u = .pointer (some ⟨b, 0, none⟩) ∧ Ext w w' ∧ W.heap.size ≤ b ∧ Obj_ w' b 256 (nxF (st0 n))) := by
  unfold stepAt
  simp only [execOp, Sem.run_bind, run_allocNext, Result.andThen_ok]
  exact ⟨_, rfl, Ext.alloc _ _, hC.size, box_next w n⟩
theorem nxF_same {σ : MSt} {h : Hp} (hO : σ.Ok) (hS : Sq σ) (hk : ¬ h.k = 3) (i : Nat) : nxF (hapT σ h) i = nxF σ i := by
  unfold nxF; rw [nx_step hO hS]; simp [hk]
theorem nxF_step {σ : MSt} {h : Hp} (hO : σ.Ok) (hS : Sq σ) (hk : h.k = 3) (hB : hapB σ h = true) {nd f : Nat} (hn : h.n = nd) (hf : h.m.f = f) (hf16 : f < 16) (i : Nat) :
    upd (nxF σ) (nd * 16 + f) (.int .u32 ((nx σ nd f : Int) + 1)) i = nxF (hapT σ h) i := by
  unfold upd nxF
  rw [nx_step hO hS, hn, hf]
  by_cases hi : i = nd * 16 + f
  · have e1 : i / 16 = nd := by omega
    have e2 : i % 16 = f := by omega
    rw [if_pos hi, e1, e2]
    simp [hB, hk]
  · rw [if_neg hi]
    have : ¬ (i / 16 = nd ∧ (f : Int) = ((i % 16 : Nat) : Int)) := by omega
    rw [if_neg (by simp only [Int.toNat_natCast]; exact fun hh => this ⟨hh.2.2.1, hh.2.2.2⟩)]
    rfl

set_option maxRecDepth 100000 in
set_option maxHeartbeats 1600000 in
theorem order_at (w : World) (n : Int) (v : Value) (l : List Hp) (hl : HpL w v l) :
    Calls Try.prog 4 #[.int .i64 n, v] w (OrdP w) := by
  have HL := Lib.hid hl
  obtain ⟨A, cap, rfl, hcap, hmax⟩ := hl.val
  clear hl hcap hmax
  go_enter Try.func4, Try.ntmps4
  go_upto_region 2 with (go_at_call 9; refine (shown_at _).mono ?_; rintro e w1 ⟨rfl, hE1⟩; have H1 := Lib.hid hE1; clear hE1)
  go_upto_region 3 with (go_at_call 10; refine (few_at _ _ l (HL.out.ext H1.out)).mono ?_; rintro e w2 ⟨fv, rfl, hown, hE2, hblk⟩; obtain ⟨fA, fcap, rfl, hfc⟩ := hown.val; have HF := Lib.hid hown; have H2 := Lib.hid hE2; have HB := Lib.hid hblk; clear hown hE2 hblk hfc)
  have hL100 : (fewL l).length ≤ 100 := by unfold fewL; rw [List.length_map]; exact List.length_take_le _ _
  have HL2 := Lib.hid (HF.out.sl Hp.len)
  have HE2 := Lib.hid (H1.out.trans H2.out)
  clear HF HB HL H1 H2
  generalize fewL l = L at *
  by_cases hn : 1 ≤ n ∧ n ≤ 16
  · obtain ⟨N, rfl⟩ : ∃ N : Nat, n = N := ⟨n.toNat, by omega⟩
    obtain ⟨hn1, hn16⟩ := hn
    obtain ⟨K, hK⟩ : ∃ K, okN (st0 N) L = K := ⟨_, rfl⟩
    obtain ⟨ec, hec⟩ : ∃ ec : Int, (if okN (st0 N) L = L.length then 0 else 160) = ec := ⟨_, rfl⟩
    have hec2 : (ec == 2) = false := by rw [← hec]; split <;> decide
    have hKl : K ≤ L.length := by rw [← hK]; exact okN_le _ _
    have HK := Lib.hid hK
    have Hec := Lib.hid hec
    clear hK hec
    go_upto_region 4 with (go_at_call 11; refine (check_at _ N (by omega) (by omega) _ L HL2.out (by omega)).mono ?_; rintro e w3 ⟨h3, hE3⟩; rw [Hec.out, HK.out] at h3; subst h3; have H3 := Lib.hid hE3; clear hE3)
    go_upto_region 6 with fail
    refine wp_region_line [(0,2)] (by kernel_rfl) (by kernel_rfl) (Ext w3) (fun _ _ h k => h.trans k) (Ext.refl _) ?_
    refine Fx.mkPtr (fun B w' => w3.heap.size ≤ B ∧ Obj_ w' B 256 (nxF (st0 N))) (fun B _ _ h k => ⟨h.1, h.2.ext k⟩) rfl rfl (fun w' hC => stepAt_allocNext N hC) (fun nb => ?_)
    simp only [List.set_cons_zero, List.set_cons_succ]
    refine Fx.done (fun w4 hC => ?_)
    obtain ⟨hC1, hnb, hON⟩ := hC
    have HE4 := Lib.hid (H3.out.trans hC1)
    have HON := Lib.hid hON
    have Hnb := Lib.hid (Nat.le_trans H3.out.size hnb)
    have hw24 := (H3.out.trans hC1).size
    clear hC1 hnb hON
    go_wp2
    go_loopw [9] (fun q wr => ∃ (k : Nat), k ≤ K ∧ q = .int .i64 k ∧ Hid (Ext w2 wr) ∧ Hid (Obj_ wr nb 256 (nxF (stN (st0 N) L k)))) (fun q _ => K - (intOf q).toNat)
    case atStart => exact ⟨0, Nat.zero_le _, rfl, HE4, Lib.hid (by rw [stN_zero]; exact HON.out)⟩
    case round =>
      obtain ⟨k, hk, rfl, hE, hO⟩ := hrel
      by_cases hlt : k < K
      · have hkl : k < L.length := by omega
        obtain ⟨sb2, so2, he, hbl2, d0, d1, d2, d3, d4⟩ := Sl.at5 (HL2.out.ext hE.out) hkl
        injection he with hA1 hA2 hA3
        subst hA1
        clear hA2 hA3
        have hst := stN_succ (st0 N) L hkl
        have hsig := stN_ok (st0_ok (n := N) (by omega) (by omega)) L k
        have hsq := stN_sq (st0_ok (n := N) (by omega) (by omega)) (sq0 N) L k
        have hB := hapB_lt (st0 N) L k hkl (by rw [HK.out]; exact hlt)
        obtain ⟨h, hh⟩ : ∃ h, L[k] = h := ⟨_, rfl⟩
        rw [hh] at d0 d1 d2 d3 d4 hst hB
        obtain ⟨σ, hσ⟩ : ∃ σ, stN (st0 N) L k = σ := ⟨_, rfl⟩
        rw [hσ] at hO hst hsig hsq hB
        have Hst := Lib.hid hst
        have Hsig := Lib.hid hsig
        have Hsq := Lib.hid hsq
        have HB := Lib.hid hB
        clear hh hσ hst hsig hsq hB
        go_upto_region 10 with fail
        refine wp_region_line [(0,0),(1,0),(2,0),(3,1),(4,2),(5,3)] (by kernel_rfl) (by kernel_rfl) (Ext wr) (fun _ _ h k => h.trans k) (Ext.refl _) ?_
        iterate 3
          first
            | refine Fx.skip rfl rfl (by simp only [List.set_cons_zero, List.set_cons_succ]; rfl) ?_
            | (with_reducible refine Fx.lab0 ?_
               first
                 | refine Fx.moveT rfl rfl rfl (by simp only [List.set_cons_zero, List.set_cons_succ]; rfl) ?_
                 | refine Fx.assignT rfl rfl rfl (by simp only [List.set_cons_zero, List.set_cons_succ]; rfl) ?_
                 | refine Fx.pure_ rfl rfl (fun _ => by go_simp; first | done | rfl) (by simp only [List.set_cons_zero, List.set_cons_succ]; rfl) ?_)
            | (with_reducible refine Fx.lab1 ?_
               refine Fx.look rfl rfl (fun w' hC => by obtain ⟨hc, hf, hl⟩ := Ext.cells hC; go_simp; rfl) (by simp only [List.set_cons_zero, List.set_cons_succ]; rfl) ?_)
        refine Fx.look rfl rfl (op_load_Hp' (h := h) hbl2 d0 d1 d2 d3 d4 rfl) (by simp only [List.set_cons_zero, List.set_cons_succ]; rfl) ?_
        refine Fx.mkPtr (fun B w' => wr.heap.size ≤ B ∧ Obj_ w' B 5 (hpF hp0)) (fun B _ _ h k => ⟨h.1, h.2.ext k⟩) rfl rfl (fun w' hC => stepAt_alloc_Hp hC) (fun B => ?_)
        simp only [List.set_cons_zero, List.set_cons_succ]
        refine Fx.eff0 (HpPre wr B h) (hpPre_stable _ _ _) rfl rfl (fun w' hC => stepAt_mono (stepAt_store_Hp hC.1 hC.2.1 hC.2.2 h rfl rfl) (fun _ w'' h => ⟨h.1, hC.2.1, h.2⟩)) ?_
        refine Fx.done (fun w5 hC => ?_)
        obtain ⟨hC1, hB, hOb⟩ := hC
        have HE5 := Lib.hid (hE.out.trans hC1)
        have HO5 := Lib.hid (hO.out.ext hC1)
        have hb5 : ∀ i u, h.enc[i]? = some u → w5.cell? ⟨B, i, none⟩ = some u := fun i u hu => by
          have h5 : i < 5 := by have := (List.getElem?_eq_some_iff.1 hu).1; simpa [Hp.enc] using this
          rw [hOb.cell i h5]; simp [hpF, hu]
        clear d0 d1 d2 d3 d4 hbl2
        have d0 := hb5 0 _ rfl
        have d1 := hb5 1 _ rfl
        have d2 := hb5 2 _ rfl
        have d3 := hb5 3 _ rfl
        have dl := hOb.lt
        have hbn : wr.heap.size ≤ B := hB
        have hnbl := hO.out.lt
        have hK100 : K ≤ 100 := by omega
        have hwk : IntKind.i64.wrap ((k : Int) + 1) = (k : Int) + 1 := IntWalk.i64_in _ ⟨by omega, by omega⟩
        clear hb5 hC1 hOb hB
        by_cases hk3 : h.k = 3
        · have hk3' : (h.k != 3) = false := by simp [hk3]
          have HK3 := Lib.hid hk3
          obtain ⟨m1, m2, m3⟩ := nx_deliver Hsig.out.1 Hsq.out hk3 HB.out
          obtain ⟨m4, m5⟩ := hapB_node HB.out
          have hsn : σ.n = N := Hsig.out.2.2
          obtain ⟨nd, hnd⟩ : ∃ nd : Nat, h.n = nd := ⟨h.n.toNat, by omega⟩
          obtain ⟨f, hf⟩ : ∃ f : Nat, h.m.f = f := ⟨h.m.f.toNat, by omega⟩
          have hnd16 : nd < 16 := by omega
          have hf16 : f < 16 := by omega
          rw [hnd, hf] at m3
          simp only [Int.toNat_natCast] at m3
          have hcell := HO5.out.cell (nd * 16 + f) (by omega)
          have hfr := HO5.out.free (nd * 16 + f)
          have hnl := HO5.out.lt
          have e1 : (nd * 16 + f) / 16 = nd := by omega
          have e2 : (nd * 16 + f) % 16 = f := by omega
          unfold nxF at hcell
          rw [e1, e2] at hcell
          obtain ⟨q, hq⟩ : ∃ q : Int, (nx σ nd f : Int) = q := ⟨_, rfl⟩
          have hq0 : 0 ≤ q := by omega
          have hq1 : q ≤ 1000000 := by
            have h1 := Hsig.out.1.del nd
            have h2 := Hsig.out.2.1
            have h3 : nx σ nd f ≤ σ.log.length := by
              unfold nx cnt
              have h4 := List.length_filter_le (fun m => decide (m.f = (f : Int))) (σ.log.take (σ.del nd))
              have h5 := List.length_take_le (σ.del nd) σ.log
              have h6 : (σ.log.take (σ.del nd)).length ≤ σ.log.length := by rw [List.length_take]; omega
              omega
            simp [st0] at h2
            omega
          rw [hq] at hcell m3
          rw [hnd] at d1
          rw [hf] at d2
          rw [m3] at d3
          have hwq : IntKind.u32.wrap (q + 1) = q + 1 := IntWalk.u32_in _ ⟨by omega, by omega⟩
          have hndI : (nd : Int) < 16 := by omega
          have hfI : (f : Int) < 16 := by omega
          have t1 : decide ((nd : Int) < 0) = false := by simp
          have t2 : decide (15 < (nd : Int)) = false := by simp; omega
          have t3 : decide ((f : Int) < 0) = false := by simp
          have t4 : decide (15 < (f : Int)) = false := by simp; omega
          have Hq := Lib.hid hq
          have Hnd := Lib.hid hnd
          have Hf := Lib.hid hf
          clear hk3 m1 m2 m3 m4 m5 hsn hnd hf e1 e2 hq
          go_upto_region 12 with fail
          refine wp_region_plan [(0,0),(1,1),(2,0),(3,0),(4,0),(5,1),(6,0),(7,0),(8,0),(9,0),(10,0),(11,0),(12,1),(13,0),(14,0),(15,0),(16,0),(17,0),(18,0),(19,1),(20,0),(21,0),(22,0),(23,0),(24,0),(25,0),(26,1),(27,0),(28,1),(29,0),(30,0),(31,0),(32,1),(33,0),(34,0),(35,1),(36,0),(37,0),(38,0)] (by kernel_rfl) (by kernel_rfl) (by kernel_rfl) (Ext w5) (fun _ _ h k => h.trans k) (Ext.drawn _ _) ?_
          iterate 39
            first
              | refine Fx.skip rfl rfl (by simp only [List.set_cons_zero, List.set_cons_succ]; rfl) ?_
              | (with_reducible refine Fx.lab0 ?_
                 first
                   | refine Fx.moveT rfl rfl rfl (by simp only [List.set_cons_zero, List.set_cons_succ]; rfl) ?_
                   | refine Fx.assignT rfl rfl rfl (by simp only [List.set_cons_zero, List.set_cons_succ]; rfl) ?_
                   | refine Fx.pure_ rfl rfl (fun _ => by go_simp; first | done | rfl) (by simp only [List.set_cons_zero, List.set_cons_succ]; rfl) ?_)
              | (with_reducible refine Fx.lab1 ?_
                 refine Fx.look rfl rfl (fun w' hC => by obtain ⟨hc, hf, hl⟩ := Ext.cells hC; go_simp; rfl) (by simp only [List.set_cons_zero, List.set_cons_succ]; rfl) ?_)
          refine Fx.done (fun w6 hC => ?_)
          obtain ⟨xc, xf, xl⟩ := hC.cells
          replace d1 := (xc _ _ dl).trans d1
          replace d2 := (xc _ _ dl).trans d2
          replace hcell := (xc _ _ hnl).trans hcell
          replace hfr := (xf _ _ hnl).trans hfr
          replace dl := xl _ dl
          replace hnl := xl _ hnl
          have HE6 := Lib.hid (HE5.out.trans hC)
          have HO6 := Lib.hid (HO5.out.ext hC)
          clear xc xf xl hC d0 d3 t1 t2 t3 t4
          go_upto_region 14 with fail
          refine wp_region_plan [(0,0),(1,1),(2,0),(3,0),(4,0),(5,1),(6,0),(7,0),(8,1),(9,0),(10,0),(11,0),(12,3)] (by kernel_rfl) (by kernel_rfl) (by kernel_rfl) (Ext w6) (fun _ _ h k => h.trans k) (Ext.drawn _ _) ?_
          iterate 12
            first
              | refine Fx.skip rfl rfl (by simp only [List.set_cons_zero, List.set_cons_succ]; rfl) ?_
              | (with_reducible refine Fx.lab0 ?_
                 first
                   | refine Fx.moveT rfl rfl rfl (by simp only [List.set_cons_zero, List.set_cons_succ]; rfl) ?_
                   | refine Fx.assignT rfl rfl rfl (by simp only [List.set_cons_zero, List.set_cons_succ]; rfl) ?_
                   | refine Fx.pure_ rfl rfl (fun _ => by go_simp; first | done | rfl) (by simp only [List.set_cons_zero, List.set_cons_succ]; rfl) ?_)
              | (with_reducible refine Fx.lab1 ?_
                 refine Fx.look rfl rfl (fun w' hC => by obtain ⟨hc, hf, hl⟩ := Ext.cells hC; go_simp; rfl) (by simp only [List.set_cons_zero, List.set_cons_succ]; rfl) ?_)
          refine Fx.store ⟨nb, nd * 16 + f, none⟩ (.int .u32 (q + 1)) rfl rfl (fun w' hC => by obtain ⟨hc, hf, hl⟩ := Ext.cells hC; go_simp) ?_
          refine Fx.done (fun w7 hC => ?_)
          obtain ⟨wa, ha, h7⟩ := hC
          have HE7 := Lib.hid (((HE6.out.trans ha).setNew (p := ⟨nb, nd * 16 + f, none⟩) Hnb.out (.int .u32 (q + 1))).trans h7)
          have HO7 : Hid (Obj_ w7 nb 256 (nxF (hapT σ h))) := Lib.hid ((((HO6.out.ext ha).set (i := nd * 16 + f) (by omega) (.int .u32 (q + 1))).ext h7).congr (fun i _ => by
            rw [← Hq.out]; exact nxF_step Hsig.out.1 Hsq.out HK3.out HB.out Hnd.out Hf.out hf16 i))
          clear ha h7 d1 d2 hcell hfr
          go_wp2
          go_roundw
          case rel => exact ⟨k + 1, by omega, by go_num, HE7, Lib.hid (by rw [Hst.out]; exact HO7.out)⟩
          case measure => simp [intOf]; omega
        · have hk3' : (h.k != 3) = true := by simp [hk3]
          have Hk3 := Lib.hid hk3
          clear hk3
          go_wp2
          go_roundw
          case rel => exact ⟨k + 1, by omega, by go_num, HE5, Lib.hid (by rw [Hst.out]; exact HO5.out.congr (fun i _ => (nxF_same Hsig.out.1 Hsq.out Hk3.out i).symm))⟩
          case measure => simp [intOf]; omega
      · go_wp2
        go_ret
        exact ⟨rfl, HE2.out.trans hE.out⟩
  · have Hn := Lib.hid hn
    clear hn
    go_wp2_with (go_at_call 11; refine (check_no _ n Hn.out _ _ _).mono ?_; rintro e w3 ⟨rfl, hE3⟩; have H3 := Lib.hid hE3; clear hE3)
    go_ret
    exact ⟨rfl, HE2.out.trans H3.out⟩
end Go.Proofs.Ytfnchpjiebojiaa
