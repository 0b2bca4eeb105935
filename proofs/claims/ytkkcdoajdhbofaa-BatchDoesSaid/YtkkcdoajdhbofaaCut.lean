/-
  rostrumlaw10.Cut: the first eighty, their bytes cut.
-/
import Derived.Test.YtkkcdoajdhbofaaOpsP
import Derived.Lib.MinMax
import Derived.Deep.Cut
namespace Go.Proofs.Ytkkcdoajdhbofaa
open Go.RowKit
attribute [local go_sem] Oper.semAt_some

def cutM (m : Ms) : Ms := { m with d := m.d.extract 0 (min m.d.size 1100) }
def cutL (l : List Ms) : List Ms := (l.take 80).map cutM
theorem cutL_len (l : List Ms) : (cutL l).length ≤ 80 := by unfold cutL; rw [List.length_map]; exact List.length_take_le _ _
def CutR (w : World) (l : List Ms) (e : Ending) (w' : World) : Prop := ∃ v, e = .returned v ∧ OwnMs w' v (cutL l) ∧ Ext w w' ∧ ∀ b, v.ownBlock = some b → w.heap.size ≤ b
theorem cutL_snoc (l : List Ms) (k : Nat) (h : k < l.length) : (l.take (k + 1)).map cutM = (l.take k).map cutM ++ [cutM l[k]] := by
  rw [List.take_succ_eq_append_getElem h, List.map_append]; rfl

set_option maxRecDepth 100000 in
set_option maxHeartbeats 1600000 in
theorem cut_at (w : World) (v : Value) (l : List Ms) (hl : MsL w v l) : Calls Try.prog 23 #[v] w (CutR w l) := by
  obtain ⟨A, cap, rfl, hcap, hmax⟩ := hl.val
  have hlen : l.length ≤ 9223372036854775807 := Nat.le_trans hcap (Nat.le_trans hmax (by decide))
  have HL := Lib.hid hl
  clear hl hcap hmax
  go_enter Try.func23, Try.ntmps23
  go_wp2
  go_loopw [3, 4] (fun v0 i wr => ∃ (k : Nat) (v : Value), v = v0 ∧ k ≤ l.length ∧ k ≤ 80 ∧ i = .int .i64 k ∧ Hid (OwnMs wr v ((l.take k).map cutM)) ∧ Hid (∀ b, v.ownBlock = some b → w.heap.size ≤ b) ∧ Hid (Ext w wr)) (fun _ i _ => l.length - (intOf i).toNat)
  case atStart => exact ⟨0, _, rfl, Nat.zero_le _, Nat.zero_le _, rfl, Lib.hid (by simpa using Own.nil), Lib.hid (fun b hb => by simp [Value.ownBlock] at hb), Lib.hid (Ext.refl _)⟩
  case round =>
    obtain ⟨k, v, rfl, hk, hk80, rfl, hown, hblk, hext⟩ := hrel
    by_cases hlt : k < l.length
    · by_cases hlt2 : k < 80
      · obtain ⟨b, off, rfl, hbl, c0, c1, c2⟩ := Sl.at3 (HL.out.ext hext.out) hlt
        have Hs := Lib.hid (cutL_snoc l k hlt)
        generalize l[k] = m at *
        go_upto_region 5 with fail
        refine wp_region_line [(0,0),(1,0),(2,0),(3,1),(4,2),(5,3)] (by kernel_rfl) (by kernel_rfl) (Ext wr) (fun _ _ h k => h.trans k) (Ext.refl _) ?_
        iterate 3
          first
            | refine Fx.skip rfl rfl (by simp only [List.set_cons_zero, List.set_cons_succ]; rfl) ?_
            | (with_reducible refine Fx.lab0 ?_
               first
                 | refine Fx.moveT rfl rfl rfl (by simp only [List.set_cons_zero, List.set_cons_succ]; rfl) ?_
                 | refine Fx.assignT rfl rfl rfl (by simp only [List.set_cons_zero, List.set_cons_succ]; rfl) ?_
                 | refine Fx.pure_ rfl rfl (fun _ => by go_simp; first | done | rfl) (by simp only [List.set_cons_zero, List.set_cons_succ]; rfl) ?_)
            | (with_reducible refine Fx.lab1 ?_
               refine Fx.look rfl rfl (fun w' hC => by obtain ⟨hc, hf, hl⟩ := Ext.cells hC; go_simp; rfl) (by simp only [List.set_cons_zero, List.set_cons_succ]; rfl) ?_)
        refine Fx.look rfl rfl (op_load_Ms' (m := m) hbl c0 c1 c2 rfl) (by simp only [List.set_cons_zero, List.set_cons_succ]; rfl) ?_
        refine Fx.mkPtr (fun B w' => wr.heap.size ≤ B ∧ Obj_ w' B 3 (msF ms0)) (fun B _ _ h k => ⟨h.1, h.2.ext k⟩) rfl rfl (fun w' hC => stepAt_alloc_Ms hC) (fun B => ?_)
        simp only [List.set_cons_zero, List.set_cons_succ]
        refine Fx.eff0 (MsPre wr B m) (msPre_stable _ _ _) rfl rfl (fun w' hC => stepAt_mono (stepAt_store_Ms hC.1 hC.2.1 hC.2.2 m rfl rfl) (fun _ w'' h => ⟨h.1, hC.2.1, h.2⟩)) ?_
        refine Fx.done (fun w1 hC => ?_)
        obtain ⟨hC1, hB, hOb⟩ := hC
        have HE1 := Lib.hid hC1
        have HO := Lib.hid hOb
        obtain ⟨-, -, hc2⟩ := hOb.ms
        have hf2 := hOb.free 2
        have hl2 := hOb.lt
        clear hC1 hOb c0 c1 c2
        obtain ⟨mn, hmn⟩ : ∃ mn, min m.d.size 1100 = mn := ⟨_, rfl⟩
        have hmi : min (m.d.size : Int) 1100 = (mn : Int) := by omega
        have hms : mn ≤ m.d.size := by omega
        have hmsI : (mn : Int) ≤ m.d.size := by omega
        have Hmn := Lib.hid hmn
        clear hmn
        go_upto_region 6 with fail
        refine wp_region_line [(0,0),(1,1),(2,0),(3,1),(4,0),(5,0),(6,0),(7,0),(8,3)] (by kernel_rfl) (by kernel_rfl) (Ext w1) (fun _ _ h k => h.trans k) (Ext.refl _) ?_
        iterate 6
          first
            | refine Fx.skip rfl rfl (by simp only [List.set_cons_zero, List.set_cons_succ]; rfl) ?_
            | (with_reducible refine Fx.lab0 ?_
               first
                 | refine Fx.moveT rfl rfl rfl (by simp only [List.set_cons_zero, List.set_cons_succ]; rfl) ?_
                 | refine Fx.assignT rfl rfl rfl (by simp only [List.set_cons_zero, List.set_cons_succ]; rfl) ?_
                 | refine Fx.pure_ rfl rfl (fun _ => by go_simp; first | done | rfl) (by simp only [List.set_cons_zero, List.set_cons_succ]; rfl) ?_)
            | (with_reducible refine Fx.lab1 ?_
               refine Fx.look rfl rfl (fun w' hC => by obtain ⟨hc, hf, hl⟩ := Ext.cells hC; go_simp; rfl) (by simp only [List.set_cons_zero, List.set_cons_succ]; rfl) ?_)
        refine Fx.pure_ (v := .string (m.d.extract 0 mn)) rfl rfl (fun _ => by go_simp) (by simp only [List.set_cons_zero, List.set_cons_succ]; rfl) ?_
        first
          | refine Fx.skip rfl rfl (by simp only [List.set_cons_zero, List.set_cons_succ]; rfl) ?_
          | (with_reducible refine Fx.lab0 ?_
             first
               | refine Fx.moveT rfl rfl rfl (by simp only [List.set_cons_zero, List.set_cons_succ]; rfl) ?_
               | refine Fx.assignT rfl rfl rfl (by simp only [List.set_cons_zero, List.set_cons_succ]; rfl) ?_
               | refine Fx.pure_ rfl rfl (fun _ => by go_simp; first | done | rfl) (by simp only [List.set_cons_zero, List.set_cons_succ]; rfl) ?_)
          | (with_reducible refine Fx.lab1 ?_
             refine Fx.look rfl rfl (fun w' hC => by obtain ⟨hc, hf, hl⟩ := Ext.cells hC; go_simp; rfl) (by simp only [List.set_cons_zero, List.set_cons_succ]; rfl) ?_)
        refine Fx.store ⟨B, 2, none⟩ (.string (m.d.extract 0 mn)) rfl rfl (fun w' hC => by
          obtain ⟨hc, hf, hl⟩ := hC.cells
          have e1 := (hc _ 2 hl2).trans hc2
          have e2 := (hf _ 2 hl2).trans hf2
          clear hc hf hl
          go_simp) ?_
        refine Fx.done (fun wx hC => ?_)
        obtain ⟨w', x1, x2⟩ := hC
        have hextx := Lib.hid (hext.out.trans (((HE1.out.trans x1).setNew (p := ⟨B, 2, none⟩) hB (.string (m.d.extract 0 mn))).trans x2))
        have hown2 := Lib.hid (hown.out.ext (((HE1.out.trans x1).setNew (p := ⟨B, 2, none⟩) hB (.string (m.d.extract 0 mn))).trans x2))
        have OBX : Obj_ wx B 3 (msF (cutM m)) := (((HO.out.ext x1).set (i := 2) (by decide) (.string (m.d.extract 0 mn))).ext x2).congr (fun i hi => by
          unfold cutM
          rw [Hmn.out]
          match i, hi with
          | 0, _ => rfl
          | 1, _ => rfl
          | 2, _ => rfl)
        obtain ⟨d0, d1, d2⟩ := OBX.ms
        have dl := OBX.lt
        have hsz := hextx.out.size
        clear x1 x2 hc2 hf2 hl2 OBX hB
        obtain ⟨y, hy⟩ : ∃ y, cutM m = y := ⟨_, rfl⟩
        rw [hy] at d0 d1 d2
        have Hy := Lib.hid hy
        clear hy
        go_upto_region 7 with fail
        refine wp_region_line [(0,0),(1,1),(2,2),(3,3),(4,0)] (by kernel_rfl) (by kernel_rfl) (Ext wx) (fun _ _ h k => h.trans k) (Ext.refl _) ?_
        first
          | refine Fx.skip rfl rfl (by simp only [List.set_cons_zero, List.set_cons_succ]; rfl) ?_
          | (with_reducible refine Fx.lab0 ?_
             first
               | refine Fx.moveT rfl rfl rfl (by simp only [List.set_cons_zero, List.set_cons_succ]; rfl) ?_
               | refine Fx.assignT rfl rfl rfl (by simp only [List.set_cons_zero, List.set_cons_succ]; rfl) ?_
               | refine Fx.pure_ rfl rfl (fun _ => by go_simp; first | done | rfl) (by simp only [List.set_cons_zero, List.set_cons_succ]; rfl) ?_)
          | (with_reducible refine Fx.lab1 ?_
             refine Fx.look rfl rfl (fun w' hC => by obtain ⟨hc, hf, hl⟩ := Ext.cells hC; go_simp; rfl) (by simp only [List.set_cons_zero, List.set_cons_succ]; rfl) ?_)
        refine Fx.look rfl rfl (op_load_Ms' (m := y) dl d0 d1 d2 rfl) (by simp only [List.set_cons_zero, List.set_cons_succ]; rfl) ?_
        refine Fx.mkSl 1 1 (fun B w' => MsL w' (.slice (some ⟨B, 0, none⟩) 1 1) [y]) (fun B _ _ h k => h.ext k) rfl rfl (fun w' hC => stepAt_lit1 hC y rfl) (fun B2 => ?_)
        simp only [List.set_cons_zero, List.set_cons_succ]
        refine Fx.eff (fun v' w' => OwnMs w' v' ((l.take k).map cutM ++ [y]) ∧ Mods (fun c => v.ownBlock = some c) wx w' ∧ (∀ c, v'.ownBlock = some c → v.ownBlock = some c ∨ wx.heap.size ≤ c)) (fun v _ _ h k => ⟨h.1.ext k, h.2.1.then_ k, h.2.2⟩) rfl rfl
          (fun w' hC => stepAt_append hC.1 (hown2.out.ext hC.1) hC.2 (by have := List.length_take_le k l; simp; omega) rfl rfl) (fun lv' => ?_)
        simp only [List.set_cons_zero, List.set_cons_succ]
        first
          | refine Fx.skip rfl rfl (by simp only [List.set_cons_zero, List.set_cons_succ]; rfl) ?_
          | (with_reducible refine Fx.lab0 ?_
             first
               | refine Fx.moveT rfl rfl rfl (by simp only [List.set_cons_zero, List.set_cons_succ]; rfl) ?_
               | refine Fx.assignT rfl rfl rfl (by simp only [List.set_cons_zero, List.set_cons_succ]; rfl) ?_
               | refine Fx.pure_ rfl rfl (fun _ => by go_simp; first | done | rfl) (by simp only [List.set_cons_zero, List.set_cons_succ]; rfl) ?_)
          | (with_reducible refine Fx.lab1 ?_
             refine Fx.look rfl rfl (fun w' hC => by obtain ⟨hc, hf, hl⟩ := Ext.cells hC; go_simp; rfl) (by simp only [List.set_cons_zero, List.set_cons_succ]; rfl) ?_)
        refine Fx.done (fun w3 hC => ?_)
        have HC := Lib.hid hC
        clear hC d0 d1 d2
        go_wp2
        go_roundw
        case rel =>
          refine ⟨k + 1, _, rfl, by omega, by omega, by go_num, ?_, ?_, ?_⟩
          · exact Lib.hid (by rw [Hs.out, Hy.out]; exact HC.out.1)
          · exact Lib.hid (fun b hb => (HC.out.2.2 b hb).elim (hblk.out b) (fun h => Nat.le_trans hextx.out.size h))
          · exact Lib.hid (((hextx.out.mods (fun c => v.ownBlock = some c)).trans HC.out.2.1 (fun _ _ h => h)).ext_of (fun x hx hs => by have := hblk.out x hs; omega))
        case measure => simp [intOf]; omega
      · go_wp2
        go_ret
        have hk8 : k = 80 := by omega
        exact ⟨v, rfl, by unfold cutL; rw [← hk8]; exact hown.out, hext.out, hblk.out⟩
    · go_wp2
      go_ret
      have hkl : k = l.length := by omega
      exact ⟨v, rfl, by unfold cutL; rw [List.take_of_length_le (by omega)]; have := hown.out; rwa [List.take_of_length_le (by omega)] at this, hext.out, hblk.out⟩
end Go.Proofs.Ytkkcdoajdhbofaa
