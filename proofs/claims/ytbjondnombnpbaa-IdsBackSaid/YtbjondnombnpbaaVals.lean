/-
  slices.Values over messages, as an iterator's contract.
-/
import Derived.Test.YtbjondnombnpbaaHas
import Derived.Test.YtbjondnombnpbaaRange
import Derived.TacticsInMore
import Derived.LoopNIn
import Derived.LoopIn
import Derived.Sort.CutIn
namespace Go.Proofs.Ytbjondnombnpbaa
open Go.RowKit
attribute [local go_sem] Oper.semAt_some

set_option maxRecDepth 100000 in
set_option maxHeartbeats 1600000 in
theorem values_iter {F : Fence} (hF : WideF F) (hro : F.round = none) (n : Nat) (I : Nat → World → Prop) (v : Value) (l : List Ms) (Bn : Nat) (hI : ∀ k W, I k W → MsL W v l) (W : World) (hBn : W.cell? ⟨Bn, 0, none⟩ = some v) :
    IterG F n Try.prog 41 #[.pointer (some ⟨Bn, 0, none⟩)] (fun k => #[(l.getD k ms0).val]) l.length I W := by
  intro q J Jx hJ hJx hJI hY h0
  have HY := Lib.hid hY
  have HJ := Lib.hid hJ
  have HJI := Lib.hid hJI
  have HI := Lib.hid hI
  obtain ⟨A, cap, rfl, hcap, hmax⟩ := (hI 0 W (hJI 0 W h0)).val
  have hlen : l.length ≤ 9223372036854775807 := Nat.le_trans hcap (Nat.le_trans hmax (by decide))
  clear hcap hmax
  have H0 := Lib.hid h0
  clear hY hJ hJI hI h0
  refine callsIn_of_wp Try.func41 rfl (hF.fn _) ?_ hro
  simp only [Try.ntmps41, List.size_toArray, List.length_cons, List.length_nil, Nat.reduceAdd, Nat.reduceSub, Array.replicate_succ, Array.replicate_zero, List.push_toArray, List.append_toArray, List.nil_append, List.cons_append]
  gi_wp2
  gi_loopw [7] (fun i wr => ∃ k : Nat, k ≤ l.length ∧ i = .int .i64 k ∧ Hid (J k wr)) (fun i _ => l.length - (intOf i).toNat)
  case atStart => exact ⟨0, Nat.zero_le _, rfl, H0⟩
  case round =>
    obtain ⟨k, hk, rfl, hJk⟩ := hrel
    by_cases hlt : k < l.length
    · obtain ⟨b, off, he, hbl, c0, c1, c2⟩ := Sl.at3 (HI.out _ _ (HJI.out _ _ hJk.out)) hlt
      subst he
      have hgd : l.getD k ms0 = l[k] := by rw [List.getD_eq_getElem?_getD, List.getElem?_eq_getElem hlt]; rfl
      have Hgd := Lib.hid hgd
      clear hgd
      generalize l[k] = m at *
      gi_upto_region 2 with fail
      refine wpIn_region_line hF [(0,0),(1,1),(2,2),(3,3)] (by kernel_rfl) (by kernel_rfl) (Ext wr) (fun _ _ h k => h.trans k) (Ext.refl _) ?_
      first
        | refine Fx.skip rfl rfl (by simp only [List.set_cons_zero, List.set_cons_succ]; rfl) ?_
        | (with_reducible refine Fx.lab0 ?_
           first
             | refine Fx.moveT rfl rfl rfl (by simp only [List.set_cons_zero, List.set_cons_succ]; rfl) ?_
             | refine Fx.assignT rfl rfl rfl (by simp only [List.set_cons_zero, List.set_cons_succ]; rfl) ?_
             | refine Fx.pure_ rfl rfl (fun _ => by go_simp; first | done | rfl) (by simp only [List.set_cons_zero, List.set_cons_succ]; rfl) ?_)
        | (with_reducible refine Fx.lab1 ?_
           refine Fx.look rfl rfl (fun w' hC => by obtain ⟨hc, hf, hl⟩ := Ext.cells hC; go_simp; rfl) (by simp only [List.set_cons_zero, List.set_cons_succ]; rfl) ?_)
      refine Fx.look rfl rfl (op_load_Ms' (m := m) hbl c0 c1 c2 rfl) (by simp only [List.set_cons_zero, List.set_cons_succ]; rfl) ?_
      refine Fx.mkPtr (fun B w' => wr.heap.size ≤ B ∧ Obj_ w' B 3 (msF ms0)) (fun B _ _ h k => ⟨h.1, h.2.ext k⟩) rfl rfl (fun w' hC => stepAt_alloc_Ms hC) (fun B => ?_)
      simp only [List.set_cons_zero, List.set_cons_succ]
      refine Fx.eff0 (MsPre wr B m) (msPre_stable _ _ _) rfl rfl (fun w' hC => stepAt_mono (stepAt_store_Ms hC.1 hC.2.1 hC.2.2 m rfl rfl) (fun _ w'' h => ⟨h.1, hC.2.1, h.2⟩)) ?_
      refine Fx.done (fun w1 hC => ?_)
      obtain ⟨hC1, -, hOb⟩ := hC
      have hJ1 := HJ.out k _ _ hJk.out hC1
      obtain ⟨fn, tmps, assign, body, hy, hR⟩ := HY.out k w1 hlt hJ1
      rw [Hgd.out] at hy
      obtain ⟨d0, d1, d2⟩ := hOb.ms
      have dl := hOb.lt
      unfold Ms.val at hy
      clear c0 c1 c2 hOb hC1 hJ1
      gi_wp2
      refine ⟨(fun hs => by (rw [hF.depth] at hs; cases hs)), hR.mono ?_⟩
      rintro e W' (⟨rfl, hJ'⟩ | ⟨rfl, hJ'⟩)
      · have H' := Lib.hid hJ'
        clear hJ' hR hy
        gi_wp2
        go_roundw
        case rel => exact ⟨k + 1, by omega, by go_num, H'⟩
        case measure => simp [intOf]; omega
      · have H' := Lib.hid hJ'
        clear hJ' hR hy
        gi_wp2
        refine bodyPost_ret (results_none rfl _ _ _) rfl ?_
        exact ⟨⟨_, rfl⟩, .inr ⟨k + 1, by omega, H'.out⟩⟩
    · gi_wp2
      go_end0
      have hkl : k = l.length := by omega
      subst hkl
      exact ⟨⟨_, rfl⟩, .inl hJk.out⟩
end Go.Proofs.Ytbjondnombnpbaa
