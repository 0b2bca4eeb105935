/-
  slices.Values over happenings, as an iterator's contract.
-/
import Derived.Test.YtfnchpjiebojiaaHap2
import Derived.Test.YtfnchpjiebojiaaRange
import Derived.TacticsInMore
import Derived.LoopNIn
import Derived.LoopIn
import Derived.Sort.CutIn
namespace Go.Proofs.Ytfnchpjiebojiaa
open Go.RowKit
attribute [local go_sem] Oper.semAt_some

abbrev HpL (w : World) (v : Value) (l : List Hp) : Prop := Sl Hp.enc 5 w v l
theorem Sl.at5 {w : World} {v : Value} {l : List Hp} (h : HpL w v l) {j : Nat} (hj : j < l.length) : ∃ b off, v = .slice (some ⟨b, off, none⟩) l.length (match v with | .slice _ _ c => c | _ => 0) ∧ b < w.heap.size ∧
    w.cell? ⟨b, off + j * 5, none⟩ = some (.int .i64 l[j].k) ∧ w.cell? ⟨b, off + j * 5 + 1, none⟩ = some (.int .i64 l[j].n) ∧ w.cell? ⟨b, off + j * 5 + 2, none⟩ = some (.int .i64 l[j].m.f) ∧
    w.cell? ⟨b, off + j * 5 + 3, none⟩ = some (.int .u32 l[j].m.c) ∧ w.cell? ⟨b, off + j * 5 + 4, none⟩ = some (.string l[j].m.d) := by
  obtain ⟨A, cap, rfl, h1, h2, h3⟩ := h
  obtain ⟨b, off, rfl, hb, hc⟩ := h3 (by rintro rfl; simp at hj)
  have hj' : l[j]? = some l[j] := List.getElem?_eq_getElem hj
  exact ⟨b, off, rfl, hb, hc j _ hj' 0 _ rfl, hc j _ hj' 1 _ rfl, hc j _ hj' 2 _ rfl, hc j _ hj' 3 _ rfl, hc j _ hj' 4 _ rfl⟩

def hp0 : Hp := ⟨0, 0, ms0⟩
section
variable {a : Act} {d : Option Tmp} {t : TypeId} {s : String} {af : Array Edge} {g : Option (Nat × Bool)} {W w : World}
def hpF (h : Hp) : Nat → Value := fun i => h.enc.getD i undef
theorem run_alloc_Hp (w : World) : (Instr.alloc 36 true (.tuple #[])).run Try.prog w = .ok (.pointer (some ⟨w.heap.size, 0, none⟩)) (w.alloc (.cells #[.int .i64 hp0.k, .int .i64 hp0.n, .int .i64 hp0.m.f, .int .u32 hp0.m.c, .string hp0.m.d] 36)) := by
  simp [go_sem, Try.zeroValue36, hp0, ms0]
theorem stepAt_alloc_Hp (hC : Ext W w) : stepAt Try.prog ⟨d, .alloc 36, t, s, af, g⟩ a w (fun u w' => ∃ b, u = .pointer (some ⟨b, 0, none⟩) ∧ Ext w w' ∧ W.heap.size ≤ b ∧ Obj_ w' b 5 (hpF hp0)) := by
  unfold stepAt
  simp only [execOp, Sem.run_bind, run_alloc_Hp, Result.andThen_ok]
  exact ⟨_, rfl, Ext.alloc _ _, hC.size, box_Hp w hp0⟩
theorem run_store_Hp {B : Nat} {f : Nat → Value} (h : Obj_ w B 5 f) (m : Hp) {q x : Value} (hq : q = .pointer (some ⟨B, 0, none⟩)) (hx : x = m.val) :
    (Instr.storeAt 36 q x).run Try.prog w = .ok () (((((w.setCell ⟨B, 0, none⟩ (.int .i64 m.k)).setCell ⟨B, 1, none⟩ (.int .i64 m.n)).setCell ⟨B, 2, none⟩ (.int .i64 m.m.f)).setCell ⟨B, 3, none⟩ (.int .u32 m.m.c)).setCell ⟨B, 4, none⟩ (.string m.m.d)) := by
  subst hq; subst hx
  have h1 := h.set (i := 0) (by omega) (.int .i64 m.k)
  have h2 := h1.set (i := 1) (by omega) (.int .i64 m.n)
  have h3 := h2.set (i := 2) (by omega) (.int .i64 m.m.f)
  have h4 := h3.set (i := 3) (by omega) (.int .u32 m.m.c)
  have c0 := h.cell 0 (by omega)
  have c1 := h1.cell 1 (by omega)
  have c2 := h2.cell 2 (by omega)
  have c3 := h3.cell 3 (by omega)
  have c4 := h4.cell 4 (by omega)
  have f0 := h.free 0
  have f1 := h1.free 1
  have f2 := h2.free 2
  have f3 := h3.free 3
  have f4 := h4.free 4
  unfold Hp.val
  simp [Instr.storeAt, Instr.sureAddr, storeVar, Try.sizeOf36, Value.cells, storeCells, store, Sem.run, Addr.add, c0, c1, c2, c3, c4, f0, f1, f2, f3, f4]
theorem stepAt_store_Hp {B : Nat} {f : Nat → Value} {q x : Operand} (hC : Ext W w) (hB : W.heap.size ≤ B) (h : Obj_ w B 5 f) (m : Hp) (hq : a.eval q = .pointer (some ⟨B, 0, none⟩)) (hx : a.eval x = m.val) :
    stepAt Try.prog ⟨d, .store 36 q x, t, s, af, g⟩ a w (fun _ w' => Ext W w' ∧ Obj_ w' B 5 (hpF m)) := by
  unfold stepAt
  simp only [execOp, Sem.run_bind, run_store_Hp h m hq hx, Result.andThen_ok]
  refine ⟨((((hC.setNew (p := ⟨B, 0, none⟩) hB _).setNew (p := ⟨B, 1, none⟩) hB _).setNew (p := ⟨B, 2, none⟩) hB _).setNew (p := ⟨B, 3, none⟩) hB _).setNew (p := ⟨B, 4, none⟩) hB _, ?_⟩
  refine (((((h.set (i := 0) (by omega) _).set (i := 1) (by omega) _).set (i := 2) (by omega) _).set (i := 3) (by omega) _).set (i := 4) (by omega) _).congr fun i hi => ?_
  match i, hi with
  | 0, _ => rfl
  | 1, _ => rfl
  | 2, _ => rfl
  | 3, _ => rfl
  | 4, _ => rfl
end
def HpPre (W : World) (B : Nat) (m : Hp) (w : World) : Prop := Ext W w ∧ W.heap.size ≤ B ∧ Obj_ w B 5 (hpF m)
theorem hpPre_stable (W : World) (B : Nat) (m : Hp) : StableF (HpPre W B m) := fun _ _ h k => ⟨h.1.trans k, h.2.1, h.2.2.ext k⟩

set_option maxRecDepth 100000 in
set_option maxHeartbeats 1600000 in
theorem values_iter {F : Fence} (hF : WideF F) (hro : F.round = none) (n : Nat) (I : Nat → World → Prop) (v : Value) (l : List Hp) (Bn : Nat) (hI : ∀ k W, I k W → HpL W v l) (W : World) (hBn : W.cell? ⟨Bn, 0, none⟩ = some v) :
    IterG F n Try.prog 34 #[.pointer (some ⟨Bn, 0, none⟩)] (fun k => #[(l.getD k hp0).val]) l.length I W := by
  intro q J Jx hJ hJx hJI hY h0
  have HY := Lib.hid hY
  have HJ := Lib.hid hJ
  have HJI := Lib.hid hJI
  have HI := Lib.hid hI
  obtain ⟨A, cap, rfl, hcap, hmax⟩ := (hI 0 W (hJI 0 W h0)).val
  have hlen : l.length ≤ 9223372036854775807 := Nat.le_trans hcap (Nat.le_trans hmax (by decide))
  clear hcap hmax
  have H0 := Lib.hid h0
  clear hY hJ hJI hI h0
  refine callsIn_of_wp Try.func34 rfl (hF.fn _) ?_ hro
  simp only [Try.ntmps34, List.size_toArray, List.length_cons, List.length_nil, Nat.reduceAdd, Nat.reduceSub, Array.replicate_succ, Array.replicate_zero, List.push_toArray, List.append_toArray, List.nil_append, List.cons_append]
  gi_wp2
  gi_loopw [7] (fun i wr => ∃ k : Nat, k ≤ l.length ∧ i = .int .i64 k ∧ Hid (J k wr)) (fun i _ => l.length - (intOf i).toNat)
  case atStart => exact ⟨0, Nat.zero_le _, rfl, H0⟩
  case round =>
    obtain ⟨k, hk, rfl, hJk⟩ := hrel
    by_cases hlt : k < l.length
    · obtain ⟨b, off, he, hbl, c0, c1, c2, c3, c4⟩ := Sl.at5 (HI.out _ _ (HJI.out _ _ hJk.out)) hlt
      injection he with hA1 hA2 hA3
      subst hA1
      have hgd : l.getD k hp0 = l[k] := by rw [List.getD_eq_getElem?_getD, List.getElem?_eq_getElem hlt]; rfl
      have Hgd := Lib.hid hgd
      clear hgd hA2 hA3
      generalize l[k] = m at *
      gi_upto_region 2 with fail
      refine wpIn_region_line hF [(0,0),(1,1),(2,2),(3,3)] (by kernel_rfl) (by kernel_rfl) (Ext wr) (fun _ _ h k => h.trans k) (Ext.refl _) ?_
      first
        | refine Fx.skip rfl rfl (by simp only [List.set_cons_zero, List.set_cons_succ]; rfl) ?_
        | (with_reducible refine Fx.lab0 ?_
           first
             | refine Fx.moveT rfl rfl rfl (by simp only [List.set_cons_zero, List.set_cons_succ]; rfl) ?_
             | refine Fx.assignT rfl rfl rfl (by simp only [List.set_cons_zero, List.set_cons_succ]; rfl) ?_
             | refine Fx.pure_ rfl rfl (fun _ => by go_simp; first | done | rfl) (by simp only [List.set_cons_zero, List.set_cons_succ]; rfl) ?_)
        | (with_reducible refine Fx.lab1 ?_
           refine Fx.look rfl rfl (fun w' hC => by obtain ⟨hc, hf, hl⟩ := Ext.cells hC; go_simp; rfl) (by simp only [List.set_cons_zero, List.set_cons_succ]; rfl) ?_)
      refine Fx.look rfl rfl (op_load_Hp' (h := m) hbl c0 c1 c2 c3 c4 rfl) (by simp only [List.set_cons_zero, List.set_cons_succ]; rfl) ?_
      refine Fx.mkPtr (fun B w' => wr.heap.size ≤ B ∧ Obj_ w' B 5 (hpF hp0)) (fun B _ _ h k => ⟨h.1, h.2.ext k⟩) rfl rfl (fun w' hC => stepAt_alloc_Hp hC) (fun B => ?_)
      simp only [List.set_cons_zero, List.set_cons_succ]
      refine Fx.eff0 (HpPre wr B m) (hpPre_stable _ _ _) rfl rfl (fun w' hC => stepAt_mono (stepAt_store_Hp hC.1 hC.2.1 hC.2.2 m rfl rfl) (fun _ w'' h => ⟨h.1, hC.2.1, h.2⟩)) ?_
      refine Fx.done (fun w1 hC => ?_)
      obtain ⟨hC1, -, hOb⟩ := hC
      have hJ1 := HJ.out k _ _ hJk.out hC1
      obtain ⟨fn, tmps, assign, body, hy, hR⟩ := HY.out k w1 hlt hJ1
      rw [Hgd.out] at hy
      have hb5 : ∀ i u, m.enc[i]? = some u → w1.cell? ⟨B, i, none⟩ = some u := fun i u hu => by
        have h5 : i < 5 := by have := (List.getElem?_eq_some_iff.1 hu).1; simpa [Hp.enc] using this
        rw [hOb.cell i h5]; simp [hpF, hu]
      have d0 := hb5 0 _ rfl
      have d1 := hb5 1 _ rfl
      have d2 := hb5 2 _ rfl
      have d3 := hb5 3 _ rfl
      have d4 := hb5 4 _ rfl
      unfold Hp.val at hy
      clear hb5 c0 c1 c2 c3 c4 hOb hC1 hJ1
      gi_wp2
      refine ⟨(fun hs => by (rw [hF.depth] at hs; cases hs)), hR.mono ?_⟩
      rintro e W' (⟨rfl, hJ'⟩ | ⟨rfl, hJ'⟩)
      · have H' := Lib.hid hJ'
        clear hJ' hR hy
        gi_wp2
        go_roundw
        case rel => exact ⟨k + 1, by omega, by go_num, H'⟩
        case measure => simp [intOf]; omega
      · have H' := Lib.hid hJ'
        clear hJ' hR hy
        gi_wp2
        refine bodyPost_ret (results_none rfl _ _ _) rfl ?_
        exact ⟨⟨_, rfl⟩, .inr ⟨k + 1, by omega, H'.out⟩⟩
    · gi_wp2
      go_end0
      have hkl : k = l.length := by omega
      subst hkl
      exact ⟨⟨_, rfl⟩, .inl hJk.out⟩
end Go.Proofs.Ytfnchpjiebojiaa
