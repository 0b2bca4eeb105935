/-
  ids.Pack: at most sixty-four messages.
-/
import Derived.Test.YtbjondnombnpbaaPack
namespace Go.Proofs.Ytbjondnombnpbaa
open Go.RowKit
attribute [local go_sem] Oper.semAt_some

section
variable {a : Act} {d : Option Tmp} {t : TypeId} {s : String} {af : Array Edge} {g : Option (Nat × Bool)} {W w : World}
theorem stepAt_alloc_st (hC : Ext W w) : stepAt Try.prog ⟨d, .alloc 60, t, s, af, g⟩ a w (fun u w' => ∃ b, u = .pointer (some ⟨b, 0, none⟩) ∧ Ext w w' ∧ W.heap.size ≤ b ∧ Obj_ w' b 1 (fun _ => .slice none 0 0)) := by
  have hr : (Instr.alloc 60 true (.tuple #[])).run Try.prog w = .ok (.pointer (some ⟨w.heap.size, 0, none⟩)) (w.alloc (.cells #[.slice none 0 0] 60)) := by
    simp [go_sem, Try.zeroValue60]
  unfold stepAt
  simp only [execOp, Sem.run_bind, hr, Result.andThen_ok]
  exact ⟨_, rfl, Ext.alloc _ _, hC.size, Obj_.new w 60 #[.slice none 0 0] (fun _ => .slice none 0 0) (by intro i hi; simp at hi; subst hi; rfl)⟩
theorem stepAt_alloc_bool (hC : Ext W w) : stepAt Try.prog ⟨d, .alloc 4, t, s, af, g⟩ a w (fun u w' => ∃ b, u = .pointer (some ⟨b, 0, none⟩) ∧ Ext w w' ∧ W.heap.size ≤ b ∧ Obj_ w' b 1 (fun _ => .bool false)) := by
  have hr : (Instr.alloc 4 true (.tuple #[])).run Try.prog w = .ok (.pointer (some ⟨w.heap.size, 0, none⟩)) (w.alloc (.cells #[.bool false] 4)) := by
    simp [go_sem, Try.zeroValue4]
  unfold stepAt
  simp only [execOp, Sem.run_bind, hr, Result.andThen_ok]
  exact ⟨_, rfl, Ext.alloc _ _, hC.size, Obj_.new w 4 #[.bool false] (fun _ => .bool false) (by intro i hi; simp at hi; subst hi; rfl)⟩
theorem stepAt_store_st {B : Nat} {f : Nat → Value} {q x : Operand} {A : Option Addr} {n cap : Nat} (h : Obj_ w B 1 f) (hq : a.eval q = .pointer (some ⟨B, 0, none⟩)) (hx : a.eval x = .slice A n cap) :
    stepAt Try.prog ⟨d, .store 60 q x, t, s, af, g⟩ a w (fun _ w' => Mods (· = B) w w' ∧ Obj_ w' B 1 (fun _ => .slice A n cap)) := by
  have c0 := h.cell 0 (by omega)
  have f0 := h.free 0
  have hr : (Instr.storeAt 60 (a.eval q) (a.eval x)).run Try.prog w = .ok () (w.setCell ⟨B, 0, none⟩ (.slice A n cap)) := by
    rw [hq, hx]
    simp [Instr.storeAt, Instr.sureAddr, storeVar, Try.sizeOf60, Value.cells, storeCells, store, Sem.run, Addr.add, c0, f0]
  unfold stepAt
  simp only [execOp, Sem.run_bind, hr, Result.andThen_ok]
  exact ⟨Mods.setCell w B 0 _, (h.set (i := 0) (by omega) _).congr (fun i hi => by unfold upd; rw [if_pos (by omega)])⟩
end

set_option maxRecDepth 100000 in
set_option maxHeartbeats 6400000 in
theorem pack_in (w : World) (v : Value) (L : List Ms) (hl : MsL w v L) (h64 : L.length ≤ 64) : CallsIn Fence.wide 5 Try.prog 17 #[v] w (PackR w L) := by
  have hF := wideF_wide
  have HL := Lib.hid hl
  obtain ⟨A, cap, rfl, -⟩ := hl.val
  have hd1 : decide (64 < (L.length : Int)) = false := by simp; omega
  have hd2 : decide (64 < L.length) = false := by simp; omega
  obtain ⟨nL, hnL⟩ : ∃ nL, L.length = nL := ⟨_, rfl⟩
  have hlt64 : ¬ 64 < nL := by omega
  have HnL := Lib.hid hnL
  rw [hnL] at h64 hd1 hd2 ⊢
  clear hl hnL
  refine callsIn_of_wp_marks Try.func17 rfl trivial ?_
  simp only [Try.ntmps17, List.size_toArray, List.length_cons, List.length_nil, Nat.reduceAdd, Nat.reduceSub, Array.replicate_succ, Array.replicate_zero, List.push_toArray, List.append_toArray, List.nil_append, List.cons_append]
  gi_wp2
  refine wpIn_scope_straight ?_
  gi_upto_region 3 with fail
  clear hd1 hd2
  refine wpIn_region_line hF [(0,0),(1,0),(2,0),(3,2),(4,1),(5,2),(6,2),(7,3)] (by kernel_rfl) (by kernel_rfl) (Ext w) (fun _ _ h k => h.trans k) (Ext.refl _) ?_
  iterate 3
    first
      | refine Fx.skip rfl rfl (by simp only [List.set_cons_zero, List.set_cons_succ]; rfl) ?_
      | (with_reducible refine Fx.lab0 ?_
         first
           | refine Fx.moveT rfl rfl rfl (by simp only [List.set_cons_zero, List.set_cons_succ]; rfl) ?_
           | refine Fx.assignT rfl rfl rfl (by simp only [List.set_cons_zero, List.set_cons_succ]; rfl) ?_
           | refine Fx.pure_ rfl rfl (fun _ => by go_simp; first | done | rfl) (by simp only [List.set_cons_zero, List.set_cons_succ]; rfl) ?_)
      | (with_reducible refine Fx.lab1 ?_
         refine Fx.look rfl rfl (fun w' hC => by obtain ⟨hc, hf, hl⟩ := Ext.cells hC; go_simp; rfl) (by simp only [List.set_cons_zero, List.set_cons_succ]; rfl) ?_)
  refine Fx.mkSl 1 1 (fun B w' => ByL w' (.slice (some ⟨B, 0, none⟩) 1 1) [IntKind.u8.wrap (nL : Int)]) (fun B _ _ h k => h.ext k) rfl rfl (fun w' hC => stepAt_lit1B hC _ rfl) (fun Bb => ?_)
  simp only [List.set_cons_zero, List.set_cons_succ]
  refine Fx.look rfl rfl (fun w' hC => op_conv hC.2 rfl) (by simp only [List.set_cons_zero, List.set_cons_succ]; rfl) ?_
  refine Fx.mkSl 1 1 (fun B w' => w.heap.size ≤ B ∧ OwnSt w' (.slice (some ⟨B, 0, none⟩) 1 1) [by1 (nL : Int)]) (fun B _ _ h k => ⟨h.1, h.2.ext k⟩) rfl rfl (fun w' hC => stepAt_lit1S hC.1 _ rfl) (fun Bs => ?_)
  simp only [List.set_cons_zero, List.set_cons_succ]
  refine Fx.mkPtr (fun B w' => w.heap.size ≤ B ∧ Bs < B ∧ Obj_ w' B 1 (fun _ => .slice none 0 0)) (fun B _ _ h k => ⟨h.1, h.2.1, h.2.2.ext k⟩) rfl rfl (fun w' hC => stepAt_mono (stepAt_alloc_st (Ext.refl w')) (fun u w'' hh => by
    obtain ⟨b, h1, h2, h3, h4⟩ := hh
    exact ⟨b, h1, h2, Nat.le_trans hC.1.1.size h3, Nat.lt_of_lt_of_le (hC.2.2.lt (b := Bs) rfl) h3, h4⟩)) (fun B4 => ?_)
  simp only [List.set_cons_zero, List.set_cons_succ]
  refine Fx.eff0 (fun w' => Ext w w' ∧ w.heap.size ≤ B4 ∧ Obj_ w' B4 1 (fun _ => .slice (some ⟨Bs, 0, none⟩) 1 1) ∧ w.heap.size ≤ Bs ∧ Bs ≠ B4 ∧ OwnSt w' (.slice (some ⟨Bs, 0, none⟩) 1 1) [by1 (nL : Int)]) (fun _ _ h k => ⟨h.1.trans k, h.2.1, h.2.2.1.ext k, h.2.2.2.1, h.2.2.2.2.1, h.2.2.2.2.2.ext k⟩) rfl rfl (fun w' hC => ?_) ?_
  · obtain ⟨⟨⟨h1, h2⟩, h3, h4⟩, h5, h6, h7⟩ := hC
    refine stepAt_mono (stepAt_store_st h7 rfl rfl) (fun u w'' hh => ?_)
    exact ⟨((h1.mods (· = B4)).trans hh.1 (fun _ _ h => h)).ext_of (fun x hx e => by omega), h5, hh.2, h3, by omega, h4.mods hh.1 (fun b hb e => by simp [Value.ownBlock] at hb; omega)⟩
  refine Fx.done (fun w1 hC => ?_)
  obtain ⟨hE1, hB4, hO4, hBs, hne, hOs⟩ := hC
  have HE1 := Lib.hid hE1
  have HO4 := Lib.hid hO4
  have HOs := Lib.hid hOs
  have hs1 := hE1.size
  have hl4 := hO4.lt
  have hls := hOs.lt (b := Bs) rfl
  clear hE1 hO4 hOs
  gi_upto_region 4 with fail
  refine wpIn_region_line hF [(0,2),(1,3)] (by kernel_rfl) (by kernel_rfl) (Ext w1) (fun _ _ h k => h.trans k) (Ext.refl _) ?_
  refine Fx.mkPtr (fun B w' => w1.heap.size ≤ B ∧ Obj_ w' B 1 (fun _ => .bool false)) (fun B _ _ h k => ⟨h.1, h.2.ext k⟩) rfl rfl (fun w' hC => stepAt_alloc_bool hC) (fun B5 => ?_)
  simp only [List.set_cons_zero, List.set_cons_succ]
  refine Fx.eff0 (fun w' => Ext w1 w' ∧ w1.heap.size ≤ B5 ∧ Obj_ w' B5 1 (fun _ => .bool true)) (fun _ _ h k => ⟨h.1.trans k, h.2.1, h.2.2.ext k⟩) rfl rfl (fun w' hC => ?_) ?_
  · obtain ⟨h1, h2, h3⟩ := hC
    have c0 := h3.cell 0 (by omega)
    have f0 := h3.free 0
    unfold stepAt
    rw [show (execOp _ _).run Try.prog w' = .ok .skip (w'.setCell ⟨B5, 0, none⟩ (.bool true)) from by first | (go_simp; done) | (go_simp; rfl)]
    exact ⟨h1.setNew (p := ⟨B5, 0, none⟩) h2 _, h2, (h3.set (i := 0) (by omega) _).congr (fun i hi => by unfold upd; rw [if_pos (by omega)])⟩
  refine Fx.done (fun w2 hC => ?_)
  obtain ⟨hE2, hB5, hO5⟩ := hC
  have HE2 := Lib.hid hE2
  have HO5 := Lib.hid hO5
  have hs2 := hE2.size
  have hl5 := hO5.lt
  clear hE2 hO5
  gi_wp2
  refine wpIn_label ?_
  gi_upto_region 5 with fail
  refine wpIn_region_line hF [(0,0),(1,2)] (by kernel_rfl) (by kernel_rfl) (Ext w2) (fun _ _ h k => h.trans k) (Ext.refl _) ?_
  first
    | refine Fx.skip rfl rfl (by simp only [List.set_cons_zero, List.set_cons_succ]; rfl) ?_
    | (with_reducible refine Fx.lab0 ?_
       first
         | refine Fx.moveT rfl rfl rfl (by simp only [List.set_cons_zero, List.set_cons_succ]; rfl) ?_
         | refine Fx.assignT rfl rfl rfl (by simp only [List.set_cons_zero, List.set_cons_succ]; rfl) ?_
         | refine Fx.pure_ rfl rfl (fun _ => by go_simp; first | done | rfl) (by simp only [List.set_cons_zero, List.set_cons_succ]; rfl) ?_)
    | (with_reducible refine Fx.lab1 ?_
       refine Fx.look rfl rfl (fun w' hC => by obtain ⟨hc, hf, hl⟩ := Ext.cells hC; go_simp; rfl) (by simp only [List.set_cons_zero, List.set_cons_succ]; rfl) ?_)
  refine Fx.mkBy (β := Nat) (fun p => .func (.func 41) #[] #[.pointer (some ⟨p, 0, none⟩)])
    (fun p w' => w2.heap.size ≤ p ∧ Obj_ w' p 1 (fun _ => .slice A nL cap)) (fun p _ _ h k => ⟨h.1, h.2.ext k⟩) rfl rfl (fun w'' hC => ?_) (fun Bq => ?_)
  · unfold stepAt
    rw [show (execOp _ _).run Try.prog w'' = .ok (.enter 29 #[.slice A nL cap]) w'' from by first | (go_simp; done) | (go_simp; rfl)]
    exact (values_at w'' A nL cap).mono (fun e w3 hh => by
      obtain ⟨Bn, rfl, h1, h2, h3⟩ := hh
      have := hC.size
      exact ⟨_, rfl, Bn, rfl, h1, by omega, h3⟩)
  simp only [List.set_cons_zero, List.set_cons_succ]
  refine Fx.done (fun w0 hC => ?_)
  obtain ⟨hC0, hq1, oq⟩ := hC
  have hs0 := hC0.size
  have hP : PkP w w0 B4 B5 := ⟨by omega, hB4, by omega, by omega, by omega, by omega⟩
  have HP := Lib.hid hP
  have I0 : PkI w w0 B4 B5 nL L 0 w0 := ⟨⟨_, (HO4.out.ext HE2.out).ext hC0, by simpa [partsL] using (HOs.out.ext HE2.out).ext hC0, fun y hy => by
    simp [Value.ownBlock] at hy
    omega⟩, HO5.out.ext hC0, by simp, (HE1.out.trans HE2.out).trans hC0⟩
  have HI0 := Lib.hid I0
  have HQ := Lib.hid oq
  clear hP I0 oq hq1 hC0 hs1 hs2 hs0 hB4 hBs hne hB5 hl4 hl5 hls
  gi_wp2
  refine rangeFunc_law hF rfl (gf := 41) (lb := #[.pointer (some ⟨Bq, 0, none⟩)]) ?hg (fun args w => callFunc_at _ (by kernel_rfl) args w)
    L.length (fun k => #[(L.getD k ms0).val]) (fun _ _ => rfl) (PkI w w0 B4 B5 nL L) (PkX w B5 L) ?hI ?hIx ?h0 ?hseq
    (PkA w w0 A nL cap B4 B5 Bq Bb Bs (by1 (nL : Int)) L) ?hA ?assign ?body ?done ?stop
  case hg => rfl
  case hI => exact fun k W W' h hm => h.bk HP.out hm
  case hIx =>
    rintro c k W W' ⟨h1, h2, h3, h4⟩ hm
    have := HP.out.b1
    have := HP.out.ws
    exact ⟨h1, h2, h3.mods hm (by unfold Bk; omega), ((h4.mods _).trans hm (fun _ _ h => h)).ext_of (fun x hx h => by unfold Bk at h; omega)⟩
  case h0 => exact HI0.out
  case hseq =>
    intro W hm
    have := (HQ.out.mods hm (by have := HQ.out.lt; unfold Bk; omega)).cell 0 (by simp)
    exact values_iter hF rfl _ _ (.slice A nL cap) L Bq (fun k W h => by have h2 := HL.out.ext h.e; rwa [HnL.out] at h2) W this
  case hA => exact fun k a' W W' h hm => ⟨h.1.bk HP.out hm, let ⟨B6, h1, h2, h3⟩ := h.2; ⟨B6, h1, h2.mods hm (by unfold Bk; omega), h3⟩⟩
  case assign =>
    intro q k W hk hi hs
    simp only [List.zip_toArray, List.zip_cons_cons, List.zip_nil_left, List.zip_nil_right, List.foldl_toArray, List.foldl_toArray', List.foldl_cons, List.foldl_nil, List.setIfInBounds_toArray, List.set_cons_succ, List.set_cons_zero]
    show Code.wpIn (Fence.wide.inRound q) _ _ _ _ (Act.mk (pkL A nL cap B4 B5 Bq Bb Bs (by1 (nL : Int)) undef undef (L.getD k ms0).val).toArray []) W
    obtain ⟨y, hy⟩ : ∃ y, L.getD k ms0 = y := ⟨_, rfl⟩
    rw [hy]
    unfold pkL
    refine wpIn_region_line (hF.inRound q) [(0,2),(1,3)] (by kernel_rfl) (by kernel_rfl) (Ext W) (fun _ _ h k => h.trans k) (Ext.refl _) ?_
    refine Fx.mkPtr (fun B w' => W.heap.size ≤ B ∧ Obj_ w' B 3 (msF ms0)) (fun B _ _ h k => ⟨h.1, h.2.ext k⟩) rfl rfl (fun w' hC => stepAt_alloc_Ms hC) (fun B => ?_)
    simp only [List.set_cons_zero, List.set_cons_succ]
    refine Fx.eff0 (MsPre W B y) (msPre_stable _ _ _) rfl rfl (fun w' hC => stepAt_mono (stepAt_store_Ms hC.1 hC.2.1 hC.2.2 y rfl rfl) (fun _ w'' h => ⟨h.1, hC.2.1, h.2⟩)) ?_
    refine Fx.done (fun w3 hC => ?_)
    obtain ⟨hC1, hB, hOb⟩ := hC
    obtain ⟨pv, g1, g2, g3⟩ := hi.ex
    exact ⟨hC1, ⟨⟨pv, g1.ext hC1, g2.ext hC1, g3⟩, hi.r.ext hC1, hi.ok, hi.e.trans hC1⟩, B, Nat.le_trans hs hB, by rw [hy]; exact hOb, by rw [hy]; rfl⟩
  case body =>
    rintro q k a' W hk ⟨hi, B6, hB6, hO6, rfl⟩ hs
    have hFq := hF.inRound q
    obtain ⟨y, hy⟩ : ∃ y, L[k]? = some y := ⟨L[k], by simp [hk]⟩
    have hgk : L.getD k ms0 = y := by rw [List.getD_eq_getElem?_getD, hy]; rfl
    have hyL : y ∈ L := List.mem_of_getElem? hy
    have htk : L.take (k + 1) = L.take k ++ [y] := by
      rw [List.take_succ_eq_append_getElem hk]
      have : L[k] = y := by rw [List.getElem?_eq_getElem hk] at hy; exact Option.some.inj hy
      rw [this]
    rw [hgk] at hO6 ⊢
    obtain ⟨pv, h4, hown, hpf⟩ := hi.ex
    obtain ⟨d0, d1, d2⟩ := hO6.ms
    have dl := hO6.lt
    have c4 := h4.cell 0 (by decide)
    have f4 := h4.free 0
    have l4 := h4.lt
    have c5 := hi.r.cell 0 (by decide)
    have f5 := hi.r.free 0
    have l5 := hi.r.lt
    obtain ⟨r, hr⟩ : ∃ r, rightB y = r := ⟨_, rfl⟩
    have Hr := Lib.hid hr
    have HI := Lib.hid hi
    have H4 := Lib.hid h4
    have HOW := Lib.hid hown
    have HPF := Lib.hid hpf
    have HTk := Lib.hid htk
    have HyL := Lib.hid hyL
    clear hgk hy hyL htk hi h4 hown hpf hO6 hr
    unfold pkL
    gi_upto_region 7 with fail
    refine wpIn_region_line hFq [(0,1),(1,1),(2,0)] (by kernel_rfl) (by kernel_rfl) (Ext W) (fun _ _ h k => h.trans k) (Ext.refl _) ?_
    refine Fx.look rfl rfl (op_load_Ms' (m := y) dl d0 d1 d2 rfl) (by simp only [List.set_cons_zero, List.set_cons_succ]; rfl) ?_
    refine Fx.call1 (v := .bool r) (args := #[y.val]) rfl rfl (fun _ => by first | (go_simp; done) | (go_simp; rfl)) (fun w' hC => (right_ids y w').mono (fun e w'' hh => by rw [Hr.out] at hh; exact hh)) (by simp only [List.set_cons_zero, List.set_cons_succ]; rfl) ?_
    first
      | refine Fx.skip rfl rfl (by simp only [List.set_cons_zero, List.set_cons_succ]; rfl) ?_
      | (with_reducible refine Fx.lab0 ?_
         first
           | refine Fx.moveT rfl rfl rfl (by simp only [List.set_cons_zero, List.set_cons_succ]; rfl) ?_
           | refine Fx.assignT rfl rfl rfl (by simp only [List.set_cons_zero, List.set_cons_succ]; rfl) ?_
           | refine Fx.pure_ rfl rfl (fun _ => by go_simp; first | done | rfl) (by simp only [List.set_cons_zero, List.set_cons_succ]; rfl) ?_)
      | (with_reducible refine Fx.lab1 ?_
         refine Fx.look rfl rfl (fun w' hC => by obtain ⟨hc, hf, hl⟩ := Ext.cells hC; go_simp; rfl) (by simp only [List.set_cons_zero, List.set_cons_succ]; rfl) ?_)
    refine Fx.done (fun wa hC => ?_)
    obtain ⟨xc, xf, xl⟩ := hC.cells
    replace d0 := (xc _ _ dl).trans d0
    replace d1 := (xc _ _ dl).trans d1
    replace d2 := (xc _ _ dl).trans d2
    replace dl := xl _ dl
    replace c4 := (xc _ _ l4).trans c4
    replace f4 := (xf _ _ l4).trans f4
    replace l4 := xl _ l4
    replace c5 := (xc _ _ l5).trans c5
    replace f5 := (xf _ _ l5).trans f5
    replace l5 := xl _ l5
    have HA := Lib.hid hC
    have hsa := hC.size
    clear xc xf xl hC
    cases r with
    | false =>
      gi_upto_region 8 with fail
      refine wpIn_region_line hFq [(0,3)] (by kernel_rfl) (by kernel_rfl) (Ext wa) (fun _ _ h k => h.trans k) (Ext.refl _) ?_
      refine Fx.store ⟨B5, 0, none⟩ (.bool false) rfl rfl (fun w' hC => by obtain ⟨hc, hf, hl⟩ := Ext.cells hC; go_simp) ?_
      refine Fx.done (fun wb hC => ?_)
      obtain ⟨wx, x1, x2⟩ := hC
      have m5 : Mods (· = B5) W wb := ((HA.out.trans x1).mods _).trans ((Mods.setCell wx B5 0 (.bool false)).then_ x2) (fun _ _ h => h)
      have o5 : Obj_ wb B5 1 (fun _ => .bool false) := ((((HI.out.r.ext HA.out).ext x1).set (i := 0) (by omega) (.bool false)).ext x2).congr (fun i hi => by unfold upd; rw [if_pos (by omega)])
      have M5 := Lib.hid m5
      have O5 := Lib.hid o5
      clear x1 x2 m5 o5 d0 d1 d2 c4 f4 c5 f5
      gi_wp2
      have hb1 := HP.out.b1
      have hb0 := HP.out.b0
      refine ⟨KeepsBk.of_mods M5.out hs (by omega) (by omega), rfl, ?_, O5.out, ((HI.out.e.mods _).trans M5.out (fun _ _ h => h)).ext_of (fun x hx h => by omega)⟩
      rw [List.all_eq_false]
      exact ⟨y, HyL.out, by rw [Hr.out]; simp⟩
    | true =>
      gi_upto_region 9 with fail
      refine wpIn_region_line hFq [(0,0),(1,0),(2,1),(3,0),(4,2),(5,1),(6,0)] (by kernel_rfl) (by kernel_rfl) (Ext wa) (fun _ _ h k => h.trans k) (Ext.refl _) ?_
      iterate 4
        first
          | refine Fx.skip rfl rfl (by simp only [List.set_cons_zero, List.set_cons_succ]; rfl) ?_
          | (with_reducible refine Fx.lab0 ?_
             first
               | refine Fx.moveT rfl rfl rfl (by simp only [List.set_cons_zero, List.set_cons_succ]; rfl) ?_
               | refine Fx.assignT rfl rfl rfl (by simp only [List.set_cons_zero, List.set_cons_succ]; rfl) ?_
               | refine Fx.pure_ rfl rfl (fun _ => by go_simp; first | done | rfl) (by simp only [List.set_cons_zero, List.set_cons_succ]; rfl) ?_)
          | (with_reducible refine Fx.lab1 ?_
             refine Fx.look rfl rfl (fun w' hC => by obtain ⟨hc, hf, hl⟩ := Ext.cells hC; go_simp; rfl) (by simp only [List.set_cons_zero, List.set_cons_succ]; rfl) ?_)
      refine Fx.mkSl 1 1 (fun B w' => ByL w' (.slice (some ⟨B, 0, none⟩) 1 1) [IntKind.u8.wrap y.f]) (fun B _ _ h k => h.ext k) rfl rfl (fun w' hC => stepAt_lit1B hC _ rfl) (fun Bc => ?_)
      simp only [List.set_cons_zero, List.set_cons_succ]
      refine Fx.look rfl rfl (fun w' hC => op_conv hC.2 rfl) (by simp only [List.set_cons_zero, List.set_cons_succ]; rfl) ?_
      first
        | refine Fx.skip rfl rfl (by simp only [List.set_cons_zero, List.set_cons_succ]; rfl) ?_
        | (with_reducible refine Fx.lab0 ?_
           first
             | refine Fx.moveT rfl rfl rfl (by simp only [List.set_cons_zero, List.set_cons_succ]; rfl) ?_
             | refine Fx.assignT rfl rfl rfl (by simp only [List.set_cons_zero, List.set_cons_succ]; rfl) ?_
             | refine Fx.pure_ rfl rfl (fun _ => by go_simp; first | done | rfl) (by simp only [List.set_cons_zero, List.set_cons_succ]; rfl) ?_)
        | (with_reducible refine Fx.lab1 ?_
           refine Fx.look rfl rfl (fun w' hC => by obtain ⟨hc, hf, hl⟩ := Ext.cells hC; go_simp; rfl) (by simp only [List.set_cons_zero, List.set_cons_succ]; rfl) ?_)
      refine Fx.done (fun wb hC => ?_)
      replace hC := hC.1
      obtain ⟨xc, xf, xl⟩ := hC.cells
      replace d0 := (xc _ _ dl).trans d0
      replace d1 := (xc _ _ dl).trans d1
      replace d2 := (xc _ _ dl).trans d2
      replace dl := xl _ dl
      replace c4 := (xc _ _ l4).trans c4
      replace f4 := (xf _ _ l4).trans f4
      replace l4 := xl _ l4
      have HB := Lib.hid (HA.out.trans hC)
      have hsb := hC.size
      have HOWb := Lib.hid ((HOW.out.ext HA.out).ext hC)
      clear xc xf xl hC c5 f5 l5
      have hpl : (partsL (nL : Int) (L.take k)).length + 4 ≤ 1073741824 := by rw [partsL_len, List.length_take]; have := HnL.out; omega
      have HPl := Lib.hid hpl
      have hn4 : ∀ c, pv.ownBlock = some c → c ≠ B4 := fun c hc => (HPF.out c hc).2.1
      have HN4 := Lib.hid hn4
      clear hpl hn4
      gi_upto_region 10 with fail
      refine wpIn_region_plan hFq [(0,1),(1,0),(2,0),(3,0),(4,1),(5,1),(6,0),(7,1),(8,0),(9,0),(10,1),(11,0),(12,1),(13,2),(14,3),(15,3)] (by kernel_rfl) (by kernel_rfl) (by kernel_rfl) (Ext wb) (fun _ _ h k => h.trans k) (Ext.drawn _ _) ?_
      iterate 5
        first
          | refine Fx.skip rfl rfl (by simp only [List.set_cons_zero, List.set_cons_succ]; rfl) ?_
          | (with_reducible refine Fx.lab0 ?_
             first
               | refine Fx.moveT rfl rfl rfl (by simp only [List.set_cons_zero, List.set_cons_succ]; rfl) ?_
               | refine Fx.assignT rfl rfl rfl (by simp only [List.set_cons_zero, List.set_cons_succ]; rfl) ?_
               | refine Fx.pure_ rfl rfl (fun _ => by go_simp; first | done | rfl) (by simp only [List.set_cons_zero, List.set_cons_succ]; rfl) ?_)
          | (with_reducible refine Fx.lab1 ?_
             refine Fx.look rfl rfl (fun w' hC => by obtain ⟨hc, hf, hl⟩ := Ext.cells hC; go_simp; rfl) (by simp only [List.set_cons_zero, List.set_cons_succ]; rfl) ?_)
      refine Fx.call1 (v := .string (put4 y.c)) (args := #[.int .u32 y.c]) rfl rfl (fun _ => by first | (go_simp; done) | (go_simp; rfl)) (fun w' hC => put_crc y.c w') (by simp only [List.set_cons_zero, List.set_cons_succ]; rfl) ?_
      iterate 4
        first
          | refine Fx.skip rfl rfl (by simp only [List.set_cons_zero, List.set_cons_succ]; rfl) ?_
          | (with_reducible refine Fx.lab0 ?_
             first
               | refine Fx.moveT rfl rfl rfl (by simp only [List.set_cons_zero, List.set_cons_succ]; rfl) ?_
               | refine Fx.assignT rfl rfl rfl (by simp only [List.set_cons_zero, List.set_cons_succ]; rfl) ?_
               | refine Fx.pure_ rfl rfl (fun _ => by go_simp; first | done | rfl) (by simp only [List.set_cons_zero, List.set_cons_succ]; rfl) ?_)
          | (with_reducible refine Fx.lab1 ?_
             refine Fx.look rfl rfl (fun w' hC => by obtain ⟨hc, hf, hl⟩ := Ext.cells hC; go_simp; rfl) (by simp only [List.set_cons_zero, List.set_cons_succ]; rfl) ?_)
      refine Fx.call1 (v := .string (put4 (IntKind.u32.wrap y.d.size))) (args := #[.int .u32 (IntKind.u32.wrap y.d.size)]) rfl rfl (fun _ => by first | (go_simp; done) | (go_simp; rfl)) (fun w' hC => put_crc _ w') (by simp only [List.set_cons_zero, List.set_cons_succ]; rfl) ?_
      iterate 2
        first
          | refine Fx.skip rfl rfl (by simp only [List.set_cons_zero, List.set_cons_succ]; rfl) ?_
          | (with_reducible refine Fx.lab0 ?_
             first
               | refine Fx.moveT rfl rfl rfl (by simp only [List.set_cons_zero, List.set_cons_succ]; rfl) ?_
               | refine Fx.assignT rfl rfl rfl (by simp only [List.set_cons_zero, List.set_cons_succ]; rfl) ?_
               | refine Fx.pure_ rfl rfl (fun _ => by go_simp; first | done | rfl) (by simp only [List.set_cons_zero, List.set_cons_succ]; rfl) ?_)
          | (with_reducible refine Fx.lab1 ?_
             refine Fx.look rfl rfl (fun w' hC => by obtain ⟨hc, hf, hl⟩ := Ext.cells hC; go_simp; rfl) (by simp only [List.set_cons_zero, List.set_cons_succ]; rfl) ?_)
      refine Fx.mkSl 4 4 (fun B w' => StL w' (.slice (some ⟨B, 0, none⟩) 4 4) (pieces y)) (fun B _ _ h k => h.ext k) rfl rfl (fun w' hC => stepAt_lit4S hC rfl rfl rfl rfl) (fun Bd => ?_)
      simp only [List.set_cons_zero, List.set_cons_succ]
      refine Fx.eff (fun v' w' => OwnSt w' v' (partsL (nL : Int) (L.take k) ++ pieces y) ∧ Mods (fun c => pv.ownBlock = some c) wb w' ∧ (∀ c, v'.ownBlock = some c → pv.ownBlock = some c ∨ wb.heap.size ≤ c)) (fun v _ _ h k => ⟨h.1.ext k, h.2.1.then_ k, h.2.2⟩) rfl rfl
        (fun w' hC => stepAt_appendS hC.1 (HOWb.out.ext hC.1) hC.2 (by have := HPl.out; simp only [pieces, List.length_cons, List.length_nil]; omega) rfl rfl) (fun nv' => ?_)
      simp only [List.set_cons_zero, List.set_cons_succ]
      refine Fx.store ⟨B4, 0, none⟩ nv' rfl rfl (fun w' hC => by
        obtain ⟨hc, hf, hl⟩ := hC.2.1.cells
        have e1 := (hc B4 0 l4 (fun h => HN4.out _ h rfl)).trans c4
        have e2 := (hf B4 0 l4 (fun h => HN4.out _ h rfl)).trans f4
        obtain ⟨A, n, vv⟩ : ∃ A n cap, nv' = .slice A n cap := by obtain ⟨A, cap, e, _⟩ := hC.1.val; exact ⟨_, _, _, e⟩
        obtain ⟨cap, rfl⟩ := vv
        clear hc hf hl hC
        go_simp) ?_
      refine Fx.done (fun w6 hC => ?_)
      obtain ⟨w5, ⟨h5, h5', h5''⟩, h6⟩ := hC
      have HH5 := Lib.hid h5
      have HH5' := Lib.hid h5'
      have HH5'' := Lib.hid h5''
      have HH6 := Lib.hid h6
      clear h5 h5' h5'' h6 d0 d1 d2 dl c4 f4 l4
      gi_wp2
      have m6 : Mods (· = B4) w5 w6 := (Mods.setCell w5 B4 _ _).then_ HH6.out
      have p1 := HP.out.a1
      have p2 := HP.out.a0
      have p3 := HP.out.b1
      have p4 := HP.out.ne
      have mm : Mods (fun x => pv.ownBlock = some x ∨ x = B4) W w6 := ((HB.out.mods _).trans HH5'.out (fun _ _ h => .inl h)).trans m6 (fun _ _ h => .inr h)
      refine ⟨KeepsBk.of_mods mm hs (fun h => ?_) (fun h => ?_), ⟨nv', ?_, ?_, ?_⟩, ?_, ?_, ?_⟩
      · rcases h with h | h
        · have := (HPF.out _ h).1; omega
        · omega
      · rcases h with h | h
        · have := (HPF.out _ h).1; omega
        · omega
      · exact ((((H4.out.ext HB.out).mods HH5'.out (fun h => HN4.out _ h rfl)).set (i := 0) (by decide) nv').ext HH6.out).congr (fun i hi => by unfold upd; rw [if_pos (by omega)])
      · rw [HTk.out, partsL_snoc]
        refine HH5.out.mods m6 (fun c hc e => ?_)
        rcases HH5''.out c hc with h | h
        · exact HN4.out c h e
        · omega
      · intro c hc
        rcases HH5''.out c hc with h | h
        · exact HPF.out c h
        · exact ⟨.inr (by omega), by omega, by omega⟩
      · refine ((HI.out.r.ext HB.out).mods HH5'.out (fun h => (HPF.out _ h).2.2 rfl)).mods m6 (fun e => p4 e.symm)
      · rw [HTk.out]
        intro m hm
        rcases List.mem_append.1 hm with hm | hm
        · exact HI.out.ok m hm
        · simp only [List.mem_cons, List.not_mem_nil, or_false] at hm
          rw [hm]; exact Hr.out
      · exact ((HI.out.e.mods _).trans mm (fun _ _ h => h)).ext_of (fun x hx h => by
          rcases h with h | h
          · have := (HPF.out _ h).1; have := HP.out.ws; omega
          · omega)
  case done =>
    intro W hI hD hs
    obtain ⟨⟨pv, h4, hown, hpf⟩, h5, hok, he⟩ := hI
    rw [List.take_length] at hown hok
    have c4 := h4.cell 0 (by decide)
    have l4 := h4.lt
    have c5 := h5.cell 0 (by decide)
    have l5 := h5.lt
    have HOW := Lib.hid hown
    have HE := Lib.hid he
    have HD := Lib.hid hD
    obtain ⟨q0, q1⟩ := cat_parts (nL : Int) L hok
    have Hq0 := Lib.hid q0
    have Hq1 := Lib.hid (show (catI (partsL (nL : Int) L)).length ≤ 1000000 by have := HnL.out; omega)
    have hPE : packE L = 0 := by
      unfold packE
      rw [if_neg (by rw [HnL.out]; exact hlt64), if_pos (by rw [List.all_eq_true]; exact fun m hm => hok m hm)]
    have hPS : packS L = strOfNums (catI (partsL (nL : Int) L)) := by unfold packS; rw [if_pos hPE, HnL.out]
    have HPE := Lib.hid hPE
    have HPS := Lib.hid hPS
    clear h4 hown hpf h5 hok he hD q0 q1 hPE hPS
    gi_upto_region 13 with fail
    refine wpIn_region_line hF [(0,1),(1,1),(2,0),(3,0)] (by kernel_rfl) (by kernel_rfl) (Ext W) (fun _ _ h k => h.trans k) (Ext.refl _) ?_
    first
      | refine Fx.skip rfl rfl (by simp only [List.set_cons_zero, List.set_cons_succ]; rfl) ?_
      | (with_reducible refine Fx.lab0 ?_
         first
           | refine Fx.moveT rfl rfl rfl (by simp only [List.set_cons_zero, List.set_cons_succ]; rfl) ?_
           | refine Fx.assignT rfl rfl rfl (by simp only [List.set_cons_zero, List.set_cons_succ]; rfl) ?_
           | refine Fx.pure_ rfl rfl (fun _ => by go_simp; first | done | rfl) (by simp only [List.set_cons_zero, List.set_cons_succ]; rfl) ?_)
      | (with_reducible refine Fx.lab1 ?_
         refine Fx.look rfl rfl (fun w' hC => by obtain ⟨hc, hf, hl⟩ := Ext.cells hC; go_simp; rfl) (by simp only [List.set_cons_zero, List.set_cons_succ]; rfl) ?_)
    refine Fx.call1 (v := .string (packS L)) (args := #[pv]) rfl rfl (fun _ => by first | (go_simp; done) | (go_simp; rfl)) (fun w' hC => (join_at w' pv _ ((HOW.out.ext hC).sl strE_len) Hq0.out Hq1.out).mono (fun e w'' hh => by rw [← HPS.out] at hh; exact hh)) (by simp only [List.set_cons_zero, List.set_cons_succ]; rfl) ?_
    iterate 2
      first
        | refine Fx.skip rfl rfl (by simp only [List.set_cons_zero, List.set_cons_succ]; rfl) ?_
        | (with_reducible refine Fx.lab0 ?_
           first
             | refine Fx.moveT rfl rfl rfl (by simp only [List.set_cons_zero, List.set_cons_succ]; rfl) ?_
             | refine Fx.assignT rfl rfl rfl (by simp only [List.set_cons_zero, List.set_cons_succ]; rfl) ?_
             | refine Fx.pure_ rfl rfl (fun _ => by go_simp; first | done | rfl) (by simp only [List.set_cons_zero, List.set_cons_succ]; rfl) ?_)
        | (with_reducible refine Fx.lab1 ?_
           refine Fx.look rfl rfl (fun w' hC => by obtain ⟨hc, hf, hl⟩ := Ext.cells hC; go_simp; rfl) (by simp only [List.set_cons_zero, List.set_cons_succ]; rfl) ?_)
    refine Fx.done (fun w9 hC => ?_)
    have hD9 := (hC.blk (by omega)).trans HD.out
    have HD9 := Lib.hid hD9
    have HE9 := Lib.hid (HE.out.trans hC)
    clear hC hD9 c4 l4 c5 l5
    gi_wp2
    refine ⟨by simp, .inl ⟨_, _, rfl, run_takeDeferred HD9.out, ?_⟩⟩
    refine ⟨_, results_tmp2 rfl _ _ _, ?_⟩
    refine ⟨by rw [HPE.out]; rfl, ((HE9.out.mods (· = w0.heap.size)).trans (Mods.putObj _ _ _) (fun _ _ h => h)).ext_of (fun x hx e => by have := HP.out.ws; omega)⟩
  case stop =>
    rintro c k W hk ⟨rfl, hbad, h5, he⟩ hD hs
    have c5 := h5.cell 0 (by decide)
    have l5 := h5.lt
    have HE := Lib.hid he
    have HD := Lib.hid hD
    have hPE : packE L = 100 := by
      unfold packE
      rw [if_neg (by rw [HnL.out]; exact hlt64), hbad]; rfl
    have hPS : packS L = ⟨#[]⟩ := by unfold packS; rw [hPE]; rfl
    have HPE := Lib.hid hPE
    have HPS := Lib.hid hPS
    clear hbad h5 he hD hPE hPS
    gi_wp2
    refine ⟨by simp, .inl ⟨_, _, rfl, run_takeDeferred HD.out, ?_⟩⟩
    refine ⟨_, results_tmp2 rfl _ _ _, ?_⟩
    refine ⟨by rw [HPE.out, HPS.out]; rfl, ((HE.out.mods (· = w0.heap.size)).trans (Mods.putObj _ _ _) (fun _ _ h => h)).ext_of (fun x hx e => by have := HP.out.ws; omega)⟩
theorem pack_at (w : World) (v : Value) (L : List Ms) (hl : MsL w v L) : Calls Try.prog 17 #[v] w (PackR w L) := by
  by_cases h : 64 < L.length
  · exact pack_long w v L hl h
  · exact (callsIn_wide (n := 5)).1 (pack_in w v L hl (by omega))
end Go.Proofs.Ytbjondnombnpbaa
