/-
  ids.first: the first message of a row of bytes.
-/
import Derived.Test.YtbjondnombnpbaaGet2
import Derived.Laws.ResultCell
namespace Go.Proofs.Ytbjondnombnpbaa
open Go.RowKit
attribute [local go_sem] Oper.semAt_some

def firstF (t : ByteArray) : Option Ms :=
  if t.size < 9 then none
  else if 1000 < get4 (t.extract 5 9) ∨ (t.size : Int) < 9 + get4 (t.extract 5 9) then none
  else if rightB ⟨byteAt t 0, get4 (t.extract 1 5), t.extract 9 (9 + (get4 (t.extract 5 9)).toNat)⟩ then some ⟨byteAt t 0, get4 (t.extract 1 5), t.extract 9 (9 + (get4 (t.extract 5 9)).toNat)⟩
  else none
def firstV : Option Ms → Value
  | none => .tuple #[ms0.val, .int .i64 0]
  | some m => .tuple #[m.val, .int .i64 (9 + m.d.size)]
theorem res_first {tmps : Array Value} {B : Nat} {w : World} {m : Ms} {n : Int} (h2 : tmps.getD 2 undef = .pointer (some ⟨B, 0, none⟩)) (h3 : tmps.getD 3 undef = .int .i64 n) (h : Obj_ w B 3 (msF m)) :
    (results Try.f33 tmps).run Try.prog w = .ok (.tuple #[m.val, .int .i64 n]) w := by
  obtain ⟨d0, d1, d2⟩ := h.ms
  rw [results_cell_tmp (p := 2) (u := 3) (ty := 34) rfl, h2, h3]
  have e : (asAddr (.pointer (some ⟨B, 0, none⟩))).run Try.prog w = .ok ⟨B, 0, none⟩ w := by simp [asAddr, Sem.run]
  rw [e, Result.andThen_ok]
  unfold Ms.val
  simp [go_sem, loadVar, d0, d1, d2, Try.isAgg34, Try.sizeOf34]
set_option maxRecDepth 100000 in
set_option maxHeartbeats 3200000 in
theorem first_at (w : World) (t : ByteArray) (ht : t.size ≤ 100000) : Calls Try.prog 33 #[.string t] w fun e w' => e = .returned (firstV (firstF t)) ∧ Ext w w' := by
  obtain ⟨R, hR⟩ : ∃ R, firstF t = R := ⟨_, rfl⟩
  rw [hR]
  unfold firstF at hR
  have HR := Lib.hid hR
  clear hR
  go_enter Try.func33, Try.ntmps33
  go_upto_region 0 with fail
  refine wp_region_line [(0,2),(1,0)] (by kernel_rfl) (by kernel_rfl) (Ext w) (fun _ _ h k => h.trans k) (Ext.refl _) ?_
  refine Fx.mkPtr (fun B w' => w.heap.size ≤ B ∧ Obj_ w' B 3 (msF ms0)) (fun B _ _ h k => ⟨h.1, h.2.ext k⟩) rfl rfl (fun w' hC => stepAt_alloc_Ms hC) (fun B => ?_)
  simp only [List.set_cons_zero, List.set_cons_succ]
  first
    | refine Fx.skip rfl rfl (by simp only [List.set_cons_zero, List.set_cons_succ]; rfl) ?_
    | (with_reducible refine Fx.lab0 ?_
       first
         | refine Fx.moveT rfl rfl rfl (by simp only [List.set_cons_zero, List.set_cons_succ]; rfl) ?_
         | refine Fx.assignT rfl rfl rfl (by simp only [List.set_cons_zero, List.set_cons_succ]; rfl) ?_
         | refine Fx.pure_ rfl rfl (fun _ => by go_simp; first | done | rfl) (by simp only [List.set_cons_zero, List.set_cons_succ]; rfl) ?_)
    | (with_reducible refine Fx.lab1 ?_
       refine Fx.look rfl rfl (fun w' hC => by obtain ⟨hc, hf, hl⟩ := Ext.cells hC; go_simp; rfl) (by simp only [List.set_cons_zero, List.set_cons_succ]; rfl) ?_)
  refine Fx.done (fun w1 hC => ?_)
  obtain ⟨hE1, hB, hO⟩ := hC
  have HE1 := Lib.hid hE1
  have HO := Lib.hid hO
  have HB := Lib.hid hB
  clear hE1 hO hB
  by_cases h9 : t.size < 9
  · have h9' : (t.size : Int) < 9 := by omega
    obtain rfl : none = R := by have := HR.out; rwa [if_pos h9] at this
    go_upto_region 2 with fail
    refine wp_region_line [(0,0),(1,3),(2,0)] (by kernel_rfl) (by kernel_rfl) (Ext w1) (fun _ _ h k => h.trans k) (Ext.refl _) ?_
    refine Fx.pure_ (v := ms0.val) rfl rfl (fun _ => by unfold Ms.val ms0; first | (go_simp; done) | (go_simp; rfl)) (by simp only [List.set_cons_zero, List.set_cons_succ]; rfl) ?_
    refine Fx.eff0 (fun w' => Ext w w' ∧ Obj_ w' B 3 (msF ms0)) (fun _ _ h k => ⟨h.1.trans k, h.2.ext k⟩) rfl rfl (fun w' hC => stepAt_store_Ms (HE1.out.trans hC) HB.out (HO.out.ext hC) ms0 rfl rfl) ?_
    first
      | refine Fx.skip rfl rfl (by simp only [List.set_cons_zero, List.set_cons_succ]; rfl) ?_
      | (with_reducible refine Fx.lab0 ?_
         first
           | refine Fx.moveT rfl rfl rfl (by simp only [List.set_cons_zero, List.set_cons_succ]; rfl) ?_
           | refine Fx.assignT rfl rfl rfl (by simp only [List.set_cons_zero, List.set_cons_succ]; rfl) ?_
           | refine Fx.pure_ rfl rfl (fun _ => by go_simp; first | done | rfl) (by simp only [List.set_cons_zero, List.set_cons_succ]; rfl) ?_)
      | (with_reducible refine Fx.lab1 ?_
         refine Fx.look rfl rfl (fun w' hC => by obtain ⟨hc, hf, hl⟩ := Ext.cells hC; go_simp; rfl) (by simp only [List.set_cons_zero, List.set_cons_succ]; rfl) ?_)
    refine Fx.done (fun w2 hC => ?_)
    have HC := Lib.hid hC
    clear hC
    go_wp2
    refine bodyPost_ret (v := firstV none) (res_first rfl rfl HC.out.2) rfl ⟨rfl, HC.out.1⟩
  · have h9' : (9 : Int) ≤ t.size := by omega
    have h9n : ¬ (t.size : Int) < 9 := by omega
    have h5 : (5 : Int) ≤ t.size := by omega
    have hz1 : (t.extract 1 5).size = 4 := by rw [ByteArray.size_extract]; omega
    have hz2 : (t.extract 5 9).size = 4 := by rw [ByteArray.size_extract]; omega
    obtain ⟨c, hc⟩ : ∃ c, get4 (t.extract 1 5) = c := ⟨_, rfl⟩
    obtain ⟨n, hn⟩ : ∃ n, get4 (t.extract 5 9) = n := ⟨_, rfl⟩
    have hn0 := get4_lt (t.extract 5 9)
    rw [hn] at hn0
    have HR2 : Hid ((if 1000 < n ∨ (t.size : Int) < 9 + n then none else if rightB ⟨byteAt t 0, c, t.extract 9 (9 + n.toNat)⟩ then some ⟨byteAt t 0, c, t.extract 9 (9 + n.toNat)⟩ else none) = R) := by
      have := HR.out
      rw [if_neg h9, hc, hn] at this
      exact Lib.hid this
    have Hz1 := Lib.hid hz1
    have Hz2 := Lib.hid hz2
    have Hc := Lib.hid hc
    have Hn := Lib.hid hn
    clear HR hz1 hz2 hc hn h9
    go_upto_region 3 with fail
    refine wp_region_line [(0,0),(1,0),(2,1),(3,0),(4,0),(5,0),(6,0),(7,0)] (by kernel_rfl) (by kernel_rfl) (Ext w1) (fun _ _ h k => h.trans k) (Ext.refl _) ?_
    iterate 2
      first
        | refine Fx.skip rfl rfl (by simp only [List.set_cons_zero, List.set_cons_succ]; rfl) ?_
        | (with_reducible refine Fx.lab0 ?_
           first
             | refine Fx.moveT rfl rfl rfl (by simp only [List.set_cons_zero, List.set_cons_succ]; rfl) ?_
             | refine Fx.assignT rfl rfl rfl (by simp only [List.set_cons_zero, List.set_cons_succ]; rfl) ?_
             | refine Fx.pure_ rfl rfl (fun _ => by go_simp; first | done | rfl) (by simp only [List.set_cons_zero, List.set_cons_succ]; rfl) ?_)
        | (with_reducible refine Fx.lab1 ?_
           refine Fx.look rfl rfl (fun w' hC => by obtain ⟨hc, hf, hl⟩ := Ext.cells hC; go_simp; rfl) (by simp only [List.set_cons_zero, List.set_cons_succ]; rfl) ?_)
    refine Fx.call1 (v := .tuple #[.int .u32 c, .int .i64 0]) (args := #[.string (t.extract 1 5)]) rfl rfl (fun _ => by first | (go_simp; done) | (go_simp; rfl)) (fun w' hC => (get_crc _ Hz1.out w').mono (fun e w'' hh => by rw [Hc.out] at hh; exact hh)) (by simp only [List.set_cons_zero, List.set_cons_succ]; rfl) ?_
    iterate 5
      first
        | refine Fx.skip rfl rfl (by simp only [List.set_cons_zero, List.set_cons_succ]; rfl) ?_
        | (with_reducible refine Fx.lab0 ?_
           first
             | refine Fx.moveT rfl rfl rfl (by simp only [List.set_cons_zero, List.set_cons_succ]; rfl) ?_
             | refine Fx.assignT rfl rfl rfl (by simp only [List.set_cons_zero, List.set_cons_succ]; rfl) ?_
             | refine Fx.pure_ rfl rfl (fun _ => by go_simp; first | done | rfl) (by simp only [List.set_cons_zero, List.set_cons_succ]; rfl) ?_)
        | (with_reducible refine Fx.lab1 ?_
           refine Fx.look rfl rfl (fun w' hC => by obtain ⟨hc, hf, hl⟩ := Ext.cells hC; go_simp; rfl) (by simp only [List.set_cons_zero, List.set_cons_succ]; rfl) ?_)
    refine Fx.done (fun w2 hC => ?_)
    have HE2 := Lib.hid hC
    clear hC
    go_upto_region 4 with fail
    refine wp_region_line [(0,0),(1,0),(2,1),(3,0),(4,0),(5,0),(6,0),(7,0)] (by kernel_rfl) (by kernel_rfl) (Ext w2) (fun _ _ h k => h.trans k) (Ext.refl _) ?_
    iterate 2
      first
        | refine Fx.skip rfl rfl (by simp only [List.set_cons_zero, List.set_cons_succ]; rfl) ?_
        | (with_reducible refine Fx.lab0 ?_
           first
             | refine Fx.moveT rfl rfl rfl (by simp only [List.set_cons_zero, List.set_cons_succ]; rfl) ?_
             | refine Fx.assignT rfl rfl rfl (by simp only [List.set_cons_zero, List.set_cons_succ]; rfl) ?_
             | refine Fx.pure_ rfl rfl (fun _ => by go_simp; first | done | rfl) (by simp only [List.set_cons_zero, List.set_cons_succ]; rfl) ?_)
        | (with_reducible refine Fx.lab1 ?_
           refine Fx.look rfl rfl (fun w' hC => by obtain ⟨hc, hf, hl⟩ := Ext.cells hC; go_simp; rfl) (by simp only [List.set_cons_zero, List.set_cons_succ]; rfl) ?_)
    refine Fx.call1 (v := .tuple #[.int .u32 n, .int .i64 0]) (args := #[.string (t.extract 5 9)]) rfl rfl (fun _ => by first | (go_simp; done) | (go_simp; rfl)) (fun w' hC => (get_crc _ Hz2.out w').mono (fun e w'' hh => by rw [Hn.out] at hh; exact hh)) (by simp only [List.set_cons_zero, List.set_cons_succ]; rfl) ?_
    iterate 5
      first
        | refine Fx.skip rfl rfl (by simp only [List.set_cons_zero, List.set_cons_succ]; rfl) ?_
        | (with_reducible refine Fx.lab0 ?_
           first
             | refine Fx.moveT rfl rfl rfl (by simp only [List.set_cons_zero, List.set_cons_succ]; rfl) ?_
             | refine Fx.assignT rfl rfl rfl (by simp only [List.set_cons_zero, List.set_cons_succ]; rfl) ?_
             | refine Fx.pure_ rfl rfl (fun _ => by go_simp; first | done | rfl) (by simp only [List.set_cons_zero, List.set_cons_succ]; rfl) ?_)
        | (with_reducible refine Fx.lab1 ?_
           refine Fx.look rfl rfl (fun w' hC => by obtain ⟨hc, hf, hl⟩ := Ext.cells hC; go_simp; rfl) (by simp only [List.set_cons_zero, List.set_cons_succ]; rfl) ?_)
    refine Fx.done (fun w3 hC => ?_)
    have HE3 := Lib.hid (HE2.out.trans hC)
    clear hC
    have HX3 := Lib.hid (HE1.out.trans HE3.out)
    have HO3 := Lib.hid (HO.out.ext HE3.out)
    clear HE2 HE3 HO HE1
    have hwn : IntKind.i64.wrap n = n := IntWalk.i64_in _ ⟨by omega, by omega⟩
    have hwa : IntKind.i64.wrap (9 + n) = 9 + n := IntWalk.i64_in _ ⟨by omega, by omega⟩
    by_cases hbad : 1000 < n ∨ (t.size : Int) < 9 + n
    · obtain rfl : none = R := by have := HR2.out; rwa [if_pos hbad] at this
      have hb : (1000 < n) ∨ (¬ 1000 < n ∧ (t.size : Int) < 9 + n) := by omega
      clear hbad
      rcases hb with hb | ⟨hb, hb2⟩
      all_goals
        go_upto_region 6 with fail
        refine wp_region_line [(0,0),(1,3),(2,0)] (by kernel_rfl) (by kernel_rfl) (Ext w3) (fun _ _ h k => h.trans k) (Ext.refl _) ?_
        refine Fx.pure_ (v := ms0.val) rfl rfl (fun _ => by unfold Ms.val ms0; first | (go_simp; done) | (go_simp; rfl)) (by simp only [List.set_cons_zero, List.set_cons_succ]; rfl) ?_
        refine Fx.eff0 (fun w' => Ext w w' ∧ Obj_ w' B 3 (msF ms0)) (fun _ _ h k => ⟨h.1.trans k, h.2.ext k⟩) rfl rfl (fun w' hC => stepAt_store_Ms (HX3.out.trans hC) HB.out (HO3.out.ext hC) ms0 rfl rfl) ?_
        first
          | refine Fx.skip rfl rfl (by simp only [List.set_cons_zero, List.set_cons_succ]; rfl) ?_
          | (with_reducible refine Fx.lab0 ?_
             first
               | refine Fx.moveT rfl rfl rfl (by simp only [List.set_cons_zero, List.set_cons_succ]; rfl) ?_
               | refine Fx.assignT rfl rfl rfl (by simp only [List.set_cons_zero, List.set_cons_succ]; rfl) ?_
               | refine Fx.pure_ rfl rfl (fun _ => by go_simp; first | done | rfl) (by simp only [List.set_cons_zero, List.set_cons_succ]; rfl) ?_)
          | (with_reducible refine Fx.lab1 ?_
             refine Fx.look rfl rfl (fun w' hC => by obtain ⟨hc, hf, hl⟩ := Ext.cells hC; go_simp; rfl) (by simp only [List.set_cons_zero, List.set_cons_succ]; rfl) ?_)
        refine Fx.done (fun w4 hC => ?_)
        have HC := Lib.hid hC
        clear hC
        go_wp2
        refine bodyPost_ret (v := firstV none) (res_first rfl rfl HC.out.2) rfl ⟨rfl, HC.out.1⟩
    · have hb1 : ¬ 1000 < n := by omega
      have hb2 : ¬ (t.size : Int) < 9 + n := by omega
      have hb3 : 9 + n ≤ (t.size : Int) := by omega
      have hb4 : (9 : Int) ≤ 9 + n := by omega
      have hb5 : (0 : Int) ≤ 9 + n := by omega
      have htn : (9 + n).toNat = 9 + n.toNat := by omega
      have hds : ((t.extract 9 (9 + n.toNat)).size : Int) = n := by rw [ByteArray.size_extract]; omega
      have HR3 : Hid ((if rightB ⟨byteAt t 0, c, t.extract 9 (9 + n.toNat)⟩ then some ⟨byteAt t 0, c, t.extract 9 (9 + n.toNat)⟩ else none) = R) := by
        have := HR2.out
        rw [if_neg hbad] at this
        exact Lib.hid this
      have Hds := Lib.hid hds
      obtain ⟨m, hm⟩ : ∃ m : Ms, (⟨byteAt t 0, c, t.extract 9 (9 + n.toNat)⟩ : Ms) = m := ⟨_, rfl⟩
      have Hm := Lib.hid hm
      have hb6 := byteAt_lt t 0
      have hwb : IntKind.i64.wrap (byteAt t 0) = byteAt t 0 := IntWalk.i64_in _ ⟨by omega, by omega⟩
      clear hds HR2 hbad hm hb6
      go_upto_region 7 with fail
      refine wp_region_plan [(0,0),(1,0),(2,0),(3,0),(4,0),(5,0),(6,0),(7,0),(8,0),(9,0),(10,0),(11,2),(12,3)] (by kernel_rfl) (by kernel_rfl) (by kernel_rfl) (Ext w3) (fun _ _ h k => h.trans k) (Ext.drawn _ _) ?_
      first
        | refine Fx.skip rfl rfl (by simp only [List.set_cons_zero, List.set_cons_succ]; rfl) ?_
        | (with_reducible refine Fx.lab0 ?_
           first
             | refine Fx.moveT rfl rfl rfl (by simp only [List.set_cons_zero, List.set_cons_succ]; rfl) ?_
             | refine Fx.assignT rfl rfl rfl (by simp only [List.set_cons_zero, List.set_cons_succ]; rfl) ?_
             | refine Fx.pure_ rfl rfl (fun _ => by go_simp; first | done | rfl) (by simp only [List.set_cons_zero, List.set_cons_succ]; rfl) ?_)
        | (with_reducible refine Fx.lab1 ?_
           refine Fx.look rfl rfl (fun w' hC => by obtain ⟨hc, hf, hl⟩ := Ext.cells hC; go_simp; rfl) (by simp only [List.set_cons_zero, List.set_cons_succ]; rfl) ?_)
      refine Fx.pure_ rfl rfl (fun w => op_idx t 0 0 rfl rfl rfl (by omega) w) (by simp only [List.set_cons_zero, List.set_cons_succ]; rfl) ?_
      iterate 9
        first
          | refine Fx.skip rfl rfl (by simp only [List.set_cons_zero, List.set_cons_succ]; rfl) ?_
          | (with_reducible refine Fx.lab0 ?_
             first
               | refine Fx.moveT rfl rfl rfl (by simp only [List.set_cons_zero, List.set_cons_succ]; rfl) ?_
               | refine Fx.assignT rfl rfl rfl (by simp only [List.set_cons_zero, List.set_cons_succ]; rfl) ?_
               | refine Fx.pure_ rfl rfl (fun _ => by go_simp; first | done | rfl) (by simp only [List.set_cons_zero, List.set_cons_succ]; rfl) ?_)
          | (with_reducible refine Fx.lab1 ?_
             refine Fx.look rfl rfl (fun w' hC => by obtain ⟨hc, hf, hl⟩ := Ext.cells hC; go_simp; rfl) (by simp only [List.set_cons_zero, List.set_cons_succ]; rfl) ?_)
      refine Fx.mkPtr (fun B w' => w3.heap.size ≤ B ∧ Obj_ w' B 3 (msF ms0)) (fun B _ _ h k => ⟨h.1, h.2.ext k⟩) rfl rfl (fun w' hC => stepAt_alloc_Ms hC) (fun B8 => ?_)
      simp only [List.set_cons_zero, List.set_cons_succ]
      refine Fx.eff0 (MsPre w3 B8 m) (msPre_stable _ _ _) rfl rfl (fun w' hC => stepAt_mono (stepAt_store_Ms hC.1 hC.2.1 hC.2.2 m rfl (by rw [← Hm.out]; first | rfl | (rw [← htn]; rfl))) (fun _ w'' h => ⟨h.1, hC.2.1, h.2⟩)) ?_
      refine Fx.done (fun w4 hC => ?_)
      obtain ⟨hC1, -, hOb⟩ := hC
      obtain ⟨d0, d1, d2⟩ := hOb.ms
      have dl := hOb.lt
      have HX4 := Lib.hid (HX3.out.trans hC1)
      have HO4 := Lib.hid (HO3.out.ext hC1)
      clear hC1 hOb HX3 HO3
      obtain ⟨r, hr⟩ : ∃ r, rightB m = r := ⟨_, rfl⟩
      have Hr := Lib.hid hr
      clear hr
      go_upto_region 8 with fail
      refine wp_region_line [(0,1),(1,1),(2,0)] (by kernel_rfl) (by kernel_rfl) (Ext w4) (fun _ _ h k => h.trans k) (Ext.refl _) ?_
      refine Fx.look rfl rfl (op_load_Ms' (m := m) dl d0 d1 d2 rfl) (by simp only [List.set_cons_zero, List.set_cons_succ]; rfl) ?_
      refine Fx.call1 (v := .bool r) (args := #[m.val]) rfl rfl (fun _ => by first | (go_simp; done) | (go_simp; rfl)) (fun w' hC => (right_ids m w').mono (fun e w'' hh => by rw [Hr.out] at hh; exact hh)) (by simp only [List.set_cons_zero, List.set_cons_succ]; rfl) ?_
      first
        | refine Fx.skip rfl rfl (by simp only [List.set_cons_zero, List.set_cons_succ]; rfl) ?_
        | (with_reducible refine Fx.lab0 ?_
           first
             | refine Fx.moveT rfl rfl rfl (by simp only [List.set_cons_zero, List.set_cons_succ]; rfl) ?_
             | refine Fx.assignT rfl rfl rfl (by simp only [List.set_cons_zero, List.set_cons_succ]; rfl) ?_
             | refine Fx.pure_ rfl rfl (fun _ => by go_simp; first | done | rfl) (by simp only [List.set_cons_zero, List.set_cons_succ]; rfl) ?_)
        | (with_reducible refine Fx.lab1 ?_
           refine Fx.look rfl rfl (fun w' hC => by obtain ⟨hc, hf, hl⟩ := Ext.cells hC; go_simp; rfl) (by simp only [List.set_cons_zero, List.set_cons_succ]; rfl) ?_)
      refine Fx.done (fun w5 hC => ?_)
      obtain ⟨xc, xf, xl⟩ := hC.cells
      replace d0 := (xc _ _ dl).trans d0
      replace d1 := (xc _ _ dl).trans d1
      replace d2 := (xc _ _ dl).trans d2
      replace dl := xl _ dl
      have HX5 := Lib.hid (HX4.out.trans hC)
      have HO5 := Lib.hid (HO4.out.ext hC)
      clear xc xf xl hC HX4 HO4
      cases r with
      | false =>
        obtain rfl : none = R := by have := HR3.out; rwa [Hm.out, Hr.out, if_neg (by simp)] at this
        go_upto_region 9 with fail
        refine wp_region_line [(0,0),(1,3),(2,0)] (by kernel_rfl) (by kernel_rfl) (Ext w5) (fun _ _ h k => h.trans k) (Ext.refl _) ?_
        refine Fx.pure_ (v := ms0.val) rfl rfl (fun _ => by unfold Ms.val ms0; first | (go_simp; done) | (go_simp; rfl)) (by simp only [List.set_cons_zero, List.set_cons_succ]; rfl) ?_
        refine Fx.eff0 (fun w' => Ext w w' ∧ Obj_ w' B 3 (msF ms0)) (fun _ _ h k => ⟨h.1.trans k, h.2.ext k⟩) rfl rfl (fun w' hC => stepAt_store_Ms (HX5.out.trans hC) HB.out (HO5.out.ext hC) ms0 rfl rfl) ?_
        first
          | refine Fx.skip rfl rfl (by simp only [List.set_cons_zero, List.set_cons_succ]; rfl) ?_
          | (with_reducible refine Fx.lab0 ?_
             first
               | refine Fx.moveT rfl rfl rfl (by simp only [List.set_cons_zero, List.set_cons_succ]; rfl) ?_
               | refine Fx.assignT rfl rfl rfl (by simp only [List.set_cons_zero, List.set_cons_succ]; rfl) ?_
               | refine Fx.pure_ rfl rfl (fun _ => by go_simp; first | done | rfl) (by simp only [List.set_cons_zero, List.set_cons_succ]; rfl) ?_)
          | (with_reducible refine Fx.lab1 ?_
             refine Fx.look rfl rfl (fun w' hC => by obtain ⟨hc, hf, hl⟩ := Ext.cells hC; go_simp; rfl) (by simp only [List.set_cons_zero, List.set_cons_succ]; rfl) ?_)
        refine Fx.done (fun w6 hC => ?_)
        have HC := Lib.hid hC
        clear hC
        go_wp2
        refine bodyPost_ret (v := firstV none) (res_first rfl rfl HC.out.2) rfl ⟨rfl, HC.out.1⟩
      | true =>
        obtain rfl : some m = R := by have := HR3.out; rwa [Hm.out, Hr.out, if_pos rfl] at this
        have hmd : (m.d.size : Int) = n := by rw [← Hm.out]; exact Hds.out
        have Hmd := Lib.hid hmd
        clear hmd
        go_upto_region 10 with fail
        refine wp_region_line [(0,1),(1,0),(2,0),(3,0),(4,3),(5,0)] (by kernel_rfl) (by kernel_rfl) (Ext w5) (fun _ _ h k => h.trans k) (Ext.refl _) ?_
        refine Fx.look rfl rfl (op_load_Ms' (m := m) dl d0 d1 d2 rfl) (by simp only [List.set_cons_zero, List.set_cons_succ]; rfl) ?_
        iterate 3
          first
            | refine Fx.skip rfl rfl (by simp only [List.set_cons_zero, List.set_cons_succ]; rfl) ?_
            | (with_reducible refine Fx.lab0 ?_
               first
                 | refine Fx.moveT rfl rfl rfl (by simp only [List.set_cons_zero, List.set_cons_succ]; rfl) ?_
                 | refine Fx.assignT rfl rfl rfl (by simp only [List.set_cons_zero, List.set_cons_succ]; rfl) ?_
                 | refine Fx.pure_ rfl rfl (fun _ => by go_simp; first | done | rfl) (by simp only [List.set_cons_zero, List.set_cons_succ]; rfl) ?_)
            | (with_reducible refine Fx.lab1 ?_
               refine Fx.look rfl rfl (fun w' hC => by obtain ⟨hc, hf, hl⟩ := Ext.cells hC; go_simp; rfl) (by simp only [List.set_cons_zero, List.set_cons_succ]; rfl) ?_)
        refine Fx.eff0 (fun w' => Ext w w' ∧ Obj_ w' B 3 (msF m)) (fun _ _ h k => ⟨h.1.trans k, h.2.ext k⟩) rfl rfl (fun w' hC => stepAt_store_Ms (HX5.out.trans hC) HB.out (HO5.out.ext hC) m rfl rfl) ?_
        first
          | refine Fx.skip rfl rfl (by simp only [List.set_cons_zero, List.set_cons_succ]; rfl) ?_
          | (with_reducible refine Fx.lab0 ?_
             first
               | refine Fx.moveT rfl rfl rfl (by simp only [List.set_cons_zero, List.set_cons_succ]; rfl) ?_
               | refine Fx.assignT rfl rfl rfl (by simp only [List.set_cons_zero, List.set_cons_succ]; rfl) ?_
               | refine Fx.pure_ rfl rfl (fun _ => by go_simp; first | done | rfl) (by simp only [List.set_cons_zero, List.set_cons_succ]; rfl) ?_)
          | (with_reducible refine Fx.lab1 ?_
             refine Fx.look rfl rfl (fun w' hC => by obtain ⟨hc, hf, hl⟩ := Ext.cells hC; go_simp; rfl) (by simp only [List.set_cons_zero, List.set_cons_succ]; rfl) ?_)
        refine Fx.done (fun w6 hC => ?_)
        have HC := Lib.hid hC
        clear hC
        go_wp2
        have hv : firstV (some m) = .tuple #[m.val, .int .i64 (9 + n)] := by rw [← Hmd.out]; rfl
        exact bodyPost_ret (v := .tuple #[m.val, .int .i64 (9 + n)]) (res_first rfl rfl HC.out.2) rfl ⟨by rw [hv], HC.out.1⟩
end Go.Proofs.Ytbjondnombnpbaa
