/-
  rostrumlaw10.IdsOnce: what it computes.
-/
import Derived.Test.YtbjondnombnpbaaWaitW
import Derived.Test.YtbjondnombnpbaaPlainO
import Derived.Test.YtbjondnombnpbaaSortU
import Derived.Test.YtbjondnombnpbaaNext
namespace Go.Proofs.Ytbjondnombnpbaa
open Go.RowKit
attribute [local go_sem] Oper.semAt_some

theorem run_zero_of {P : Program} {t : TypeId} {z : Value} {a b : Nat} (h : (P.info? t).map (fun i => (i.zero, i.size, i.bytes)) = some (some z, a, b)) (w : World) : (zeroValue t).run P w = .ok z w := by
  obtain ⟨i, hi, hz, _⟩ := info_parts h
  simp [zeroValue, run_typeInfo w hi, hz]
theorem infoRow : (Try.prog.info? 47).map (fun i => (i.zero, i.size, i.bytes)) = some (some (.agg (Array.replicate 16 (.int .u32 0))), 16, 64) := by kernel_rfl
theorem run_allocRow (w : World) : (Instr.alloc 47 true (.tuple #[])).run Try.prog w = .ok (.pointer (some ⟨w.heap.size, 0, none⟩)) (w.alloc (.cells (Array.replicate 16 (.int .u32 0)) 47)) := by
  simp [go_sem, run_zero_of infoRow]
def rwF (l : List Ms) : Nat → Value := fun i => .int .u32 (countF l ((i : Nat) : Int))
theorem box_row (w : World) : Obj_ (w.alloc (.cells (Array.replicate 16 (.int .u32 0)) 47)) w.heap.size 16 (rwF []) := by
  have h := Obj_.new w 47 (Array.replicate 16 (.int .u32 0)) (rwF []) (fun i hi => by
    rw [Array.size_replicate] at hi
    rw [Array.getElem?_replicate, if_pos hi]
    simp [rwF, countF])
  rwa [Array.size_replicate] at h
theorem stepAt_allocRow {a : Act} {d : Option Tmp} {t : TypeId} {s : String} {af : Array Edge} {g : Option (Nat × Bool)} {W w : World} (hC : Ext W w) : stepAt Try.prog ⟨d, .alloc 47, t, s, af, g⟩ a w (fun u w' => ∃ b, u = .pointer (some ⟨b, 0, none⟩) ∧ Ext w w' ∧ W.heap.size ≤ b ∧ Obj_ w' b 16 (rwF [])) := by
  unfold stepAt
  simp only [execOp, Sem.run_bind, run_allocRow, Result.andThen_ok]
  exact ⟨_, rfl, Ext.alloc _ _, hC.size, box_row w⟩
theorem rwF_step (l : List Ms) (m : Ms) (f : Nat) (hf : m.f = f) (i : Nat) : upd (rwF l) f (.int .u32 ((countF l f : Int) + 1)) i = rwF (l ++ [m]) i := by
  unfold upd rwF
  have h := countF_append l [m] (i : Int)
  by_cases hi : i = f
  · subst hi
    rw [if_pos rfl, h]
    have : countF [m] (i : Int) = 1 := by simp [countF, hf]
    rw [this]; push_cast; rfl
  · rw [if_neg hi, h]
    have : countF [m] (i : Int) = 0 := by
      have : ¬ m.f = (i : Int) := by omega
      simp [countF, this]
    rw [this]; rfl

set_option maxRecDepth 100000 in
set_option maxHeartbeats 3200000 in
theorem once_law (w : World) (v : Value) (l : List Ms) (hl : MsL w v l) :
    Calls Try.prog 8 #[v] w (LawP w) := by
  have HL := Lib.hid hl
  obtain ⟨A, cap, rfl, hcap, hmax⟩ := hl.val
  clear hl hcap hmax
  go_enter Try.func8, Try.ntmps8
  go_upto_region 2 with (go_at_call 10; refine (shown_at _).mono ?_; rintro e w1 ⟨rfl, hE1⟩; have H1 := Lib.hid hE1; clear hE1)
  go_upto_region 3 with (go_at_call 11; refine (cut_at _ _ l (HL.out.ext H1.out)).mono ?_; rintro e w2 ⟨fv, rfl, hown, hE2, hblk⟩; obtain ⟨fA, fcap, rfl, hfc⟩ := hown.val; have HF := Lib.hid hown; have H2 := Lib.hid hE2; clear hown hE2 hblk hfc)
  have hL80 : (cutL l).length ≤ 80 := cutL_len l
  have HL2 := Lib.hid (HF.out.sl Ms.len)
  have HE2 := Lib.hid (H1.out.trans H2.out)
  clear HF HL H1 H2
  generalize cutL l = L at *
  go_upto_region 4 with (go_at_call 12; refine (new_at _).mono ?_; rintro e w3 ⟨b, mb, rfl, hM, hE, hb, hmb⟩; have HM := Lib.hid hM; have HE := Lib.hid hE; have Hb := Lib.hid hb; have Hmb := Lib.hid hmb; clear hM hE hb hmb)
  have HI3 : Hid (BookI w2 b mb (.slice none 0 0) b0 w3) := Lib.hid ⟨HM.out, fun x hx => by
    rcases hx with h | h | h
    · have := Hb.out; omega
    · have := Hmb.out; omega
    · simp [Value.ownBlock] at h, HE.out⟩
  clear HM HE Hb Hmb
  go_wp2
  go_loopw [5] (fun q wr => ∃ (k : Nat) (lv : Value), k ≤ L.length ∧ q = .int .i64 k ∧ Hid (BookI w2 b mb lv (stB L k) wr)) (fun q _ => L.length - (intOf q).toNat)
  case atStart => exact ⟨0, _, Nat.zero_le _, rfl, by rw [stB_zero]; exact HI3⟩
  case round =>
    obtain ⟨k, lv, hk, rfl, hI⟩ := hrel
    by_cases hlt : k < L.length
    · obtain ⟨jb, joff, rfl, hjbl, j0, j1, j2⟩ := Sl.at3 (HL2.out.ext hI.out.ext) hlt
      have hst := stB_succ L hlt
      obtain ⟨hq, hln⟩ := stB_q L k
      generalize L[k] = m at *
      obtain ⟨σ, hσ⟩ : ∃ σ, stB L k = σ := ⟨_, rfl⟩
      rw [hσ] at hI hst hq hln
      have Hst := Lib.hid hst
      have Hq := Lib.hid hq
      have Hln := Lib.hid hln
      have hwk : IntKind.i64.wrap ((k : Int) + 1) = (k : Int) + 1 := IntWalk.i64_in _ ⟨by omega, by omega⟩
      clear hσ hst hq hln
      go_upto_region 7 with fail
      refine wp_region_line [(0,0),(1,0),(2,0),(3,0),(4,1),(5,3)] (by kernel_rfl) (by kernel_rfl) (Ext wr) (fun _ _ h k => h.trans k) (Ext.refl _) ?_
      iterate 4
        first
          | refine Fx.skip rfl rfl (by simp only [List.set_cons_zero, List.set_cons_succ]; rfl) ?_
          | (with_reducible refine Fx.lab0 ?_
             first
               | refine Fx.moveT rfl rfl rfl (by simp only [List.set_cons_zero, List.set_cons_succ]; rfl) ?_
               | refine Fx.assignT rfl rfl rfl (by simp only [List.set_cons_zero, List.set_cons_succ]; rfl) ?_
               | refine Fx.pure_ rfl rfl (fun _ => by go_simp; first | done | rfl) (by simp only [List.set_cons_zero, List.set_cons_succ]; rfl) ?_)
          | (with_reducible refine Fx.lab1 ?_
             refine Fx.look rfl rfl (fun w' hC => by obtain ⟨hc, hf, hl⟩ := Ext.cells hC; go_simp; rfl) (by simp only [List.set_cons_zero, List.set_cons_succ]; rfl) ?_)
      refine Fx.look rfl rfl (op_load_Ms' (m := m) hjbl j0 j1 j2 rfl) (by simp only [List.set_cons_zero, List.set_cons_succ]; rfl) ?_
      refine Fx.eff (fun _ w' => ∃ lv', BookI w2 b mb lv' (takeS σ m) w' ∧ Mods (FB b mb lv) wr w') (fun _ _ _ h k => let ⟨lv', h1, h2⟩ := h; ⟨lv', h1.ext' k, h2.then_ k⟩) rfl rfl (fun w' hC => stepAt_take hI.out Hq.out.ok (by have := Hln.out; omega) m hC (by first | (go_simp; done) | (go_simp; rfl))) (fun u => ?_)
      simp only [List.set_cons_zero, List.set_cons_succ]
      refine Fx.done (fun w4 hC => ?_)
      obtain ⟨lv', hI4, -⟩ := hC
      have HI4 := Lib.hid hI4
      clear hI4 j0 j1 j2
      go_wp2
      go_roundw
      case rel => exact ⟨k + 1, lv', by omega, by go_num, by rw [Hst.out]; exact HI4⟩
      case measure => simp [intOf]; omega
    · obtain ⟨hq, hln⟩ := stB_q L k
      have hord := stB_ord L k
      obtain ⟨σ, hσ⟩ : ∃ σ, stB L k = σ := ⟨_, rfl⟩
      rw [hσ] at hI hq hln hord
      have Hq := Lib.hid hq
      have hln' : σ.log.length + σ.wt.length ≤ L.length := by omega
      have Hln := Lib.hid hln'
      have hloglen : σ.log.length ≤ 80 := by omega
      have HLL := Lib.hid hloglen
      clear hσ hq hln hln'
      go_upto_region 9 with (go_at_call 14; refine (log_at hI.out.bk (by have := HLL.out; omega)).mono ?_; rintro e w5 ⟨gv, rfl, hg, hE5, hgf⟩; obtain ⟨gA, gcap, rfl, hgc⟩ := hg.val; have HG := Lib.hid (hg.sl Ms.len); have HE5 := Lib.hid hE5; clear hg hE5 hgf hgc)
      have HI5 := Lib.hid (hI.out.ext' HE5.out)
      obtain ⟨G, hG⟩ : ∃ G, σ.log = G := ⟨_, rfl⟩
      rw [hG] at HG hloglen hord ⊢
      have HOrd := Lib.hid hord
      have HGe := Lib.hid hG
      clear hG hI HE5 hlt hk hord
      refine wp_region_line [(0,2)] (by kernel_rfl) (by kernel_rfl) (Ext w5) (fun _ _ h k => h.trans k) (Ext.refl _) ?_
      refine Fx.mkPtr (fun B w' => w5.heap.size ≤ B ∧ Obj_ w' B 16 (rwF [])) (fun B _ _ h k => ⟨h.1, h.2.ext k⟩) rfl rfl (fun w' hC => stepAt_allocRow hC) (fun nb => ?_)
      simp only [List.set_cons_zero, List.set_cons_succ]
      refine Fx.done (fun w6 hC => ?_)
      obtain ⟨hC1, hnb, hON⟩ := hC
      have HE6 := Lib.hid hC1
      have HON := Lib.hid hON
      have Hnb := Lib.hid hnb
      clear hC1 hnb hON
      go_wp2
      generalize wr = wA at *
      go_loopw [8] (fun q wx => ∃ (k : Nat), q = .int .i64 k ∧ k ≤ G.length ∧ Hid (Ext w5 wx) ∧ Hid (Obj_ wx nb 16 (rwF (G.take k)))) (fun q _ => G.length - (intOf q).toNat)
      case atStart => exact ⟨0, rfl, Nat.zero_le _, HE6, by simpa using HON⟩
      case round =>
        obtain ⟨k, rfl, hk, hE, hO⟩ := hrel
        by_cases hlt : k < G.length
        · obtain ⟨jb, joff, rfl, hjbl, j0, j1, j2⟩ := Sl.at3 (HG.out.ext hE.out) hlt
          obtain ⟨o1, o2, o3⟩ := HOrd.out k hlt
          have hsn := take_snoc' G k hlt
          have hc80 : countF (G.take k) G[k].f ≤ 80 := by have := countF_le (G.take k) G[k].f; rw [List.length_take] at this; omega
          obtain ⟨m, hm⟩ : ∃ m, G[k] = m := ⟨_, rfl⟩
          rw [hm] at j0 j1 j2 o1 o2 o3 hsn hc80
          obtain ⟨f, hf⟩ : ∃ f : Nat, m.f = f := ⟨m.f.toNat, by omega⟩
          have hf16 : f < 16 := by omega
          rw [hf] at j0 o3 hc80
          have hcell := hO.out.cell f hf16
          have hfr := hO.out.free f
          have hnl := hO.out.lt
          unfold rwF at hcell
          have Hstep := Lib.hid (fun i => rwF_step (G.take k) m f hf i)
          obtain ⟨c, hc⟩ : ∃ c : Int, (countF (G.take k) (f : Int) : Int) = c := ⟨_, rfl⟩
          rw [hc] at hcell o3 Hstep
          rw [o3] at j1
          have hc0 : 0 ≤ c := by omega
          have hc1 : c ≤ 80 := by omega
          have hwc : IntKind.u32.wrap (c + 1) = c + 1 := IntWalk.u32_in _ ⟨by omega, by omega⟩
          have hwk : IntKind.i64.wrap ((k : Int) + 1) = (k : Int) + 1 := IntWalk.i64_in _ ⟨by omega, by omega⟩
          have t3 : decide ((f : Int) < 0) = false := by simp
          have t4 : decide (15 < (f : Int)) = false := by simp; omega
          have hfI : (f : Int) < 16 := by omega
          have Hsn := Lib.hid hsn
          clear hm hf hc o1 o2 o3 hc80 hsn
          go_upto_region 14 with fail
          refine wp_region_plan [(0,0),(1,0),(2,0),(3,0),(4,0),(5,0),(6,0),(7,0),(8,0),(9,0),(10,0),(11,0),(12,1),(13,0),(14,0),(15,1),(16,0),(17,0),(18,0)] (by kernel_rfl) (by kernel_rfl) (by kernel_rfl) (Ext wr) (fun _ _ h k => h.trans k) (Ext.drawn _ _) ?_
          iterate 19
            first
              | refine Fx.skip rfl rfl (by simp only [List.set_cons_zero, List.set_cons_succ]; rfl) ?_
              | (with_reducible refine Fx.lab0 ?_
                 first
                   | refine Fx.moveT rfl rfl rfl (by simp only [List.set_cons_zero, List.set_cons_succ]; rfl) ?_
                   | refine Fx.assignT rfl rfl rfl (by simp only [List.set_cons_zero, List.set_cons_succ]; rfl) ?_
                   | refine Fx.pure_ rfl rfl (fun _ => by go_simp; first | done | rfl) (by simp only [List.set_cons_zero, List.set_cons_succ]; rfl) ?_)
              | (with_reducible refine Fx.lab1 ?_
                 refine Fx.look rfl rfl (fun w' hC => by obtain ⟨hc, hf, hl⟩ := Ext.cells hC; go_simp; rfl) (by simp only [List.set_cons_zero, List.set_cons_succ]; rfl) ?_)
          refine Fx.done (fun w7 hC => ?_)
          obtain ⟨xc, xf, xl⟩ := hC.cells
          replace hcell := (xc _ _ hnl).trans hcell
          replace hfr := (xf _ _ hnl).trans hfr
          replace hnl := xl _ hnl
          have HE7 := Lib.hid (hE.out.trans hC)
          have HO7 := Lib.hid (hO.out.ext hC)
          clear xc xf xl hC j0 j1 j2 t3 t4
          go_upto_region 16 with fail
          refine wp_region_line [(0,0),(1,0),(2,1),(3,0),(4,0),(5,3)] (by kernel_rfl) (by kernel_rfl) (Ext w7) (fun _ _ h k => h.trans k) (Ext.refl _) ?_
          iterate 5
            first
              | refine Fx.skip rfl rfl (by simp only [List.set_cons_zero, List.set_cons_succ]; rfl) ?_
              | (with_reducible refine Fx.lab0 ?_
                 first
                   | refine Fx.moveT rfl rfl rfl (by simp only [List.set_cons_zero, List.set_cons_succ]; rfl) ?_
                   | refine Fx.assignT rfl rfl rfl (by simp only [List.set_cons_zero, List.set_cons_succ]; rfl) ?_
                   | refine Fx.pure_ rfl rfl (fun _ => by go_simp; first | done | rfl) (by simp only [List.set_cons_zero, List.set_cons_succ]; rfl) ?_)
              | (with_reducible refine Fx.lab1 ?_
                 refine Fx.look rfl rfl (fun w' hC => by obtain ⟨hc, hf, hl⟩ := Ext.cells hC; go_simp; rfl) (by simp only [List.set_cons_zero, List.set_cons_succ]; rfl) ?_)
          refine Fx.store ⟨nb, f, none⟩ (.int .u32 (c + 1)) rfl rfl (fun w' hC => by obtain ⟨hc, hf, hl⟩ := Ext.cells hC; go_simp) ?_
          refine Fx.done (fun w8 hC => ?_)
          obtain ⟨wa, ha, h8⟩ := hC
          have HE8 := Lib.hid (((HE7.out.trans ha).setNew (p := ⟨nb, f, none⟩) Hnb.out (.int .u32 (c + 1))).trans h8)
          have HO8 : Hid (Obj_ w8 nb 16 (rwF (G.take (k + 1)))) := Lib.hid ((((HO7.out.ext ha).set (i := f) (by omega) (.int .u32 (c + 1))).ext h8).congr (fun i _ => by
            rw [Hsn.out]; exact Hstep.out i))
          clear ha h8 hcell hfr
          go_wp2
          go_roundw
          case rel => exact ⟨k + 1, by go_num, by omega, HE8, HO8⟩
          case measure => simp [intOf]; omega
        · have HI6 := Lib.hid (HI5.out.ext' hE.out)
          have hwl : σ.wt.length ≤ 80 := by have := Hln.out; omega
          have hle : (G.length : Int) + (σ.wt.length : Int) ≤ L.length := by have := Hln.out; rw [HGe.out] at this; omega
          obtain ⟨wl, hwl2⟩ : ∃ wl, σ.wt.length = wl := ⟨_, rfl⟩
          rw [hwl2] at hwl hle
          have Hwl := Lib.hid hwl2
          have hws : IntKind.i64.wrap ((G.length : Int) + (wl : Int)) = (G.length : Int) + (wl : Int) := IntWalk.i64_in _ ⟨by omega, by omega⟩
          have hdl : decide ((G.length : Int) + (wl : Int) ≤ (L.length : Int)) = true := by simp; omega
          clear hwl2
          go_upto_region 17 with fail
          refine wp_region_line [(0,0),(1,0),(2,0),(3,0),(4,0),(5,2),(6,0),(7,0),(8,0),(9,0),(10,0),(11,0),(12,0)] (by kernel_rfl) (by kernel_rfl) (Ext wr) (fun _ _ h k => h.trans k) (Ext.refl _) ?_
          iterate 5
            first
              | refine Fx.skip rfl rfl (by simp only [List.set_cons_zero, List.set_cons_succ]; rfl) ?_
              | (with_reducible refine Fx.lab0 ?_
                 first
                   | refine Fx.moveT rfl rfl rfl (by simp only [List.set_cons_zero, List.set_cons_succ]; rfl) ?_
                   | refine Fx.assignT rfl rfl rfl (by simp only [List.set_cons_zero, List.set_cons_succ]; rfl) ?_
                   | refine Fx.pure_ rfl rfl (fun _ => by go_simp; first | done | rfl) (by simp only [List.set_cons_zero, List.set_cons_succ]; rfl) ?_)
              | (with_reducible refine Fx.lab1 ?_
                 refine Fx.look rfl rfl (fun w' hC => by obtain ⟨hc, hf, hl⟩ := Ext.cells hC; go_simp; rfl) (by simp only [List.set_cons_zero, List.set_cons_succ]; rfl) ?_)
          refine Fx.mkBy (fun x : Option Addr × Nat => .slice x.1 wl x.2) (fun _ _ => True) (fun _ _ _ h _ => h) rfl rfl (fun w' hC => ?_) (fun x => ?_)
          · unfold stepAt
            rw [show (execOp _ _).run Try.prog w' = .ok (.enter 24 #[.pointer (some ⟨b, 0, none⟩)]) w' from by first | (go_simp; done) | (go_simp; rfl)]
            exact (waiting_at (HI6.out.bk.ext hC) (by rw [Hwl.out]; omega)).mono (fun e w'' hh => by
              obtain ⟨v', L', rfl, h1, h2, h3, h4⟩ := hh
              obtain ⟨A', c', rfl, -⟩ := h1.val
              have hll : L'.length = wl := by rw [h2.length_eq, List.length_map, Hwl.out]
              exact ⟨_, rfl, (A', c'), by rw [hll], h4, trivial⟩)
          simp only [List.set_cons_zero, List.set_cons_succ]
          iterate 7
            first
              | refine Fx.skip rfl rfl (by simp only [List.set_cons_zero, List.set_cons_succ]; rfl) ?_
              | (with_reducible refine Fx.lab0 ?_
                 first
                   | refine Fx.moveT rfl rfl rfl (by simp only [List.set_cons_zero, List.set_cons_succ]; rfl) ?_
                   | refine Fx.assignT rfl rfl rfl (by simp only [List.set_cons_zero, List.set_cons_succ]; rfl) ?_
                   | refine Fx.pure_ rfl rfl (fun _ => by go_simp; first | done | rfl) (by simp only [List.set_cons_zero, List.set_cons_succ]; rfl) ?_)
              | (with_reducible refine Fx.lab1 ?_
                 refine Fx.look rfl rfl (fun w' hC => by obtain ⟨hc, hf, hl⟩ := Ext.cells hC; go_simp; rfl) (by simp only [List.set_cons_zero, List.set_cons_succ]; rfl) ?_)
          refine Fx.done (fun w9 hC => ?_)
          have HC := Lib.hid hC.1
          clear hC
          go_wp2
          go_ret
          exact ⟨rfl, HE2.out.trans (HI6.out.ext.trans HC.out)⟩
end Go.Proofs.Ytbjondnombnpbaa
