/-
  rostrumlaw16.ModelAll: what it computes.
-/
import Derived.Test.YtfnchpjiebojiaaPlainAll
import Derived.Test.YtfnchpjiebojiaaOrder
import Derived.Test.YtfnchpjiebojiaaFlex3
namespace Go.Proofs.Ytfnchpjiebojiaa
open Go.RowKit
attribute [local go_sem] Oper.semAt_some

def encI (q : IntKind) (x : Int) : List Value := [.int q x]
theorem encI_len (q : IntKind) (x : Int) : (encI q x).length = 1 := rfl
abbrev IL (q : IntKind) (w : World) (v : Value) (l : List Int) : Prop := Sl (encI q) 1 w v l
theorem Sl.at1 {q : IntKind} {w : World} {A : Option Addr} {n cap : Nat} {l : List Int} (h : IL q w (.slice A n cap) l) {j : Nat} (hj : j < l.length) :
    ∃ b off, A = some ⟨b, off, none⟩ ∧ b < w.heap.size ∧ w.cell? ⟨b, off + j, none⟩ = some (.int q l[j]) := by
  obtain ⟨A', cap', e, _, _, hc⟩ := h
  injection e with e1 e2 e3
  subst e1
  obtain ⟨b, off, rfl, hlt, hcell⟩ := hc (fun e => by rw [e] at hj; simp at hj)
  have := hcell j _ (List.getElem?_eq_getElem hj) 0 _ rfl
  refine ⟨b, off, rfl, hlt, ?_⟩
  simpa using this
def nxA (A : List Ms) : Nat → Value := fun j => .int .u32 (cnt (j : Int) A)
structure AI (w1 : World) (b sb mb nb : Nat) (lv iv : Value) (σ : MSt) (A : List Ms) (f : Nat → Value) (w : World) : Prop where
  m : ModelAt w b sb mb lv σ
  o : Obj_ w nb 16 f
  i : OwnMs w iv A
  fm : ∀ x, FM b sb mb lv x → w1.heap.size ≤ x ∧ x ≠ nb ∧ iv.ownBlock ≠ some x
  fn : w1.heap.size ≤ nb
  fi : ∀ y, iv.ownBlock = some y → w1.heap.size ≤ y ∧ y ≠ nb
  e : Ext w1 w
theorem AI.ext' {w1 w w' : World} {b sb mb nb : Nat} {lv iv : Value} {σ : MSt} {A : List Ms} {f : Nat → Value} (h : AI w1 b sb mb nb lv iv σ A f w) (he : Ext w w') : AI w1 b sb mb nb lv iv σ A f w' :=
  ⟨h.m.ext he, h.o.ext he, h.i.ext he, h.fm, h.fn, h.fi, h.e.trans he⟩
theorem AI.put {w1 wa w' : World} {b sb mb nb : Nat} {lv iv : Value} {σ : MSt} {A : List Ms} {f g : Nat → Value} {j : Nat} {v : Value} (h : AI w1 b sb mb nb lv iv σ A f wa) (hj : j < 16) (hw : Ext (wa.setCell ⟨nb, j, none⟩ v) w') (hg : ∀ i, i < 16 → upd f j v i = g i) : AI w1 b sb mb nb lv iv σ A g w' := by
  have m : Mods (· = nb) wa w' := (Mods.setCell wa nb j v).then_ hw
  exact ⟨h.m.mods m (fun x hx => (h.fm x hx).2.1), ((h.o.set hj v).ext hw).congr hg, h.i.mods m (fun y hy => (h.fi y hy).2), h.fm, h.fn, h.fi, ((h.e.mods (· = nb)).trans m (fun _ _ h => h)).ext_of (fun x hx e => by have := h.fn; omega)⟩
theorem AI.hap {w1 w w' : World} {b sb mb nb : Nat} {lv lv' iv : Value} {σ σ' : MSt} {A : List Ms} {f : Nat → Value} (h : AI w1 b sb mb nb lv iv σ A f w) (hM : ModelAt w' b sb mb lv' σ') (hm : Mods (FM b sb mb lv) w w') (hl : ∀ y, lv'.ownBlock = some y → lv.ownBlock = some y ∨ w.heap.size ≤ y) : AI w1 b sb mb nb lv' iv σ' A f w' := by
  refine ⟨hM, h.o.mods hm (fun e => (h.fm nb e).2.1 rfl), h.i.mods hm (fun y hy e => (h.fm y e).2.2 hy), fun x hx => ?_, h.fn, h.fi, ((h.e.mods _).trans hm (fun _ _ h => h)).ext_of (fun x hx e => by have := (h.fm x e).1; omega)⟩
  rcases hx with hx | hx | hx | hx
  · exact h.fm x (.inl hx)
  · exact h.fm x (.inr (.inl hx))
  · exact h.fm x (.inr (.inr (.inl hx)))
  · rcases hl x hx with h' | h'
    · exact h.fm x (.inr (.inr (.inr h')))
    · have := h.e.size; have := h.o.lt
      exact ⟨by omega, by omega, fun e => by have := h.i.lt e; omega⟩
theorem AI.app {w1 w w' : World} {b sb mb nb : Nat} {lv iv iv' : Value} {σ : MSt} {A A' : List Ms} {f : Nat → Value} (h : AI w1 b sb mb nb lv iv σ A f w) (ho : OwnMs w' iv' A') (hm : Mods (fun c => iv.ownBlock = some c) w w') (hf : ∀ c, iv'.ownBlock = some c → iv.ownBlock = some c ∨ w.heap.size ≤ c) : AI w1 b sb mb nb lv iv' σ A' f w' := by
  refine ⟨h.m.mods hm (fun x hx e => (h.fm x hx).2.2 e), h.o.mods hm (fun e => (h.fi nb e).2 rfl), ho, fun x hx => ⟨(h.fm x hx).1, (h.fm x hx).2.1, fun e => ?_⟩, h.fn, fun y hy => ?_, ((h.e.mods _).trans hm (fun _ _ h => h)).ext_of (fun x hx e => by have := (h.fi x e).1; omega)⟩
  · rcases hf x e with h' | h'
    · exact (h.fm x hx).2.2 h'
    · have := h.m.lt hx; omega
  · rcases hf y hy with h' | h'
    · exact h.fi y h'
    · have := h.e.size; have := h.o.lt; exact ⟨by omega, by omega⟩
theorem infoNx : (Try.prog.info? 39).map (fun i => (i.zero, i.size, i.bytes)) = some (some (.agg (Array.replicate 16 (.int .u32 0))), 16, 64) := by kernel_rfl
theorem run_allocNx (w : World) : (Instr.alloc 39 true (.tuple #[])).run Try.prog w = .ok (.pointer (some ⟨w.heap.size, 0, none⟩)) (w.alloc (.cells (Array.replicate 16 (.int .u32 0)) 39)) := by
  simp [go_sem, run_zero_of infoNx]
theorem stepAt_allocNx {a : Act} {d : Option Tmp} {t : TypeId} {s : String} {af : Array Edge} {g : Option (Nat × Bool)} {W w : World} (hC : Ext W w) : stepAt Try.prog ⟨d, .alloc 39, t, s, af, g⟩ a w (fun u w' => ∃ b, u = .pointer (some ⟨b, 0, none⟩) ∧ Ext w w' ∧ W.heap.size ≤ b ∧ Obj_ w' b 16 (nxA [])) := by
  unfold stepAt
  simp only [execOp, Sem.run_bind, run_allocNx, Result.andThen_ok]
  have h := Obj_.new w 39 (Array.replicate 16 (.int .u32 0)) (nxA []) (fun i hi => by
    rw [Array.size_replicate] at hi
    rw [Array.getElem?_replicate, if_pos hi]; rfl)
  rw [Array.size_replicate] at h
  exact ⟨_, rfl, Ext.alloc _ _, hC.size, h⟩

set_option maxRecDepth 100000 in
set_option maxHeartbeats 6400000 in
theorem all_law (w : World) (n : Int) (v : Value) (l : List Int) (hl : IL .i64 w v l) :
    Calls Try.prog 8 #[.int .i64 n, v] w (OrdP w) := by
  have HL := Lib.hid hl
  obtain ⟨A, cap, rfl, hcap, hmax⟩ := hl.val
  clear hl hcap hmax
  go_enter Try.func8, Try.ntmps8
  go_upto_region 2 with (go_at_call 9; refine (shown_at _).mono ?_; rintro e w1 ⟨rfl, hE1⟩; have H1 := Lib.hid hE1; clear hE1)
  by_cases hn : 1 ≤ n ∧ n ≤ 16
  · obtain ⟨N, rfl⟩ : ∃ N : Nat, n = N := ⟨n.toNat, by omega⟩
    obtain ⟨hn1, hn16⟩ := hn
    go_upto_region 5 with (go_at_call 13; refine (new_yes _ N (by omega) (by omega)).mono ?_; rintro e w3 ⟨b, sb, mb, rfl, hM, hE3, hb, hsb, hmb⟩; have HM := Lib.hid hM; have H3 := Lib.hid hE3; have Hb := Lib.hid hb; have Hsb := Lib.hid hsb; have Hmb := Lib.hid hmb; clear hM hE3 hb hsb hmb)
    refine wp_region_line [(0,2)] (by kernel_rfl) (by kernel_rfl) (Ext w3) (fun _ _ h k => h.trans k) (Ext.refl _) ?_
    refine Fx.mkPtr (fun B w' => w3.heap.size ≤ B ∧ Obj_ w' B 16 (nxA [])) (fun B _ _ h k => ⟨h.1, h.2.ext k⟩) rfl rfl (fun w' hC => stepAt_allocNx hC) (fun nb => ?_)
    simp only [List.set_cons_zero, List.set_cons_succ]
    refine Fx.done (fun w4 hC => ?_)
    obtain ⟨hC1, hnb, hON⟩ := hC
    have HA4 : Hid (AI w1 b sb mb nb (.slice none 0 0) (.slice none 0 0) (st0 N) [] (nxA []) w4) := Lib.hid (by
      have hs := H3.out.size
      refine ⟨HM.out.ext hC1, hON, Own.nil, fun x hx => ?_, by omega, fun y hy => by simp [Value.ownBlock] at hy, H3.out.trans hC1⟩
      have hx3 := HM.out.lt hx
      refine ⟨?_, by omega, by simp [Value.ownBlock]⟩
      rcases hx with h | h | h | h
      · have := Hb.out; omega
      · have := Hsb.out; omega
      · have := Hmb.out; omega
      · simp [Value.ownBlock] at h)
    clear hC1 hnb hON HM H3 Hb Hsb Hmb
    go_wp2
    go_loopw [9, 10] (fun iv q wr => ∃ (k : Nat) (lv : Value) (σ : MSt) (AC : List Ms), k ≤ l.length ∧ k ≤ 40 ∧ q = .int .i64 k ∧ AC.length = k ∧ Hid (P1 σ N AC) ∧ Hid (AI w1 b sb mb nb lv iv σ AC (nxA AC) wr)) (fun _ q _ => l.length - (intOf q).toNat)
    case atStart => exact ⟨0, _, _, [], Nat.zero_le _, by omega, rfl, rfl, Lib.hid (p1_zero (by omega) (by omega)), HA4⟩
    case round =>
      obtain ⟨k, lv, σ, AC, hk, hk40, rfl, hAl, hP, hI⟩ := hrel
      have hwk : IntKind.i64.wrap ((k : Int) + 1) = (k : Int) + 1 := IntWalk.i64_in _ ⟨by omega, by omega⟩
      obtain ⟨iA, icap, rfl, -⟩ := hI.out.i.val
      by_cases hgo : k < l.length ∧ k < 40
      · obtain ⟨hlt, hlt2⟩ := hgo
        have hlt2I : (k : Int) < 40 := by omega
        obtain ⟨jb, joff, rfl, hjb, j0⟩ := Sl.at1 (HL.out.ext (H1.out.trans hI.out.e)) hlt
        generalize l[k] = x at *
        have hwN : IntKind.u64.wrap (N : Int) = N := IntWalk.u64_in _ ⟨by omega, by omega⟩
        obtain ⟨ux, hux⟩ : ∃ ux, IntKind.u64.wrap x = ux := ⟨_, rfl⟩
        have hux0 : 0 ≤ ux := by rw [← hux, IntKind.wrap_u64]; omega
        have hNz : ¬ (N : Int) = 0 := by omega
        have hNz2 : ((N : Int) == 0) = false := by simp; omega
        have hNz3 : ¬ N = 0 := by omega
        obtain ⟨fr, hfr⟩ : ∃ fr : Nat, ux.tmod N = fr := ⟨(ux.tmod N).toNat, by have := Int.tmod_nonneg (N : Int) hux0; omega⟩
        have hfrN : fr < N := by have := Int.tmod_lt_of_pos ux (show 0 < (N : Int) by omega); omega
        have hwf : IntKind.i64.wrap (fr : Int) = fr := IntWalk.i64_in _ ⟨by omega, by omega⟩
        go_upto_region 10 with fail
        refine wp_region_line [(0,0),(1,0),(2,0),(3,1),(4,0),(5,0),(6,0),(7,0),(8,0),(9,0)] (by kernel_rfl) (by kernel_rfl) (Ext wr) (fun _ _ h k => h.trans k) (Ext.refl _) ?_
        iterate 10
          first
            | refine Fx.skip rfl rfl (by simp only [List.set_cons_zero, List.set_cons_succ]; rfl) ?_
            | (with_reducible refine Fx.lab0 ?_
               first
                 | refine Fx.moveT rfl rfl rfl (by simp only [List.set_cons_zero, List.set_cons_succ]; rfl) ?_
                 | refine Fx.assignT rfl rfl rfl (by simp only [List.set_cons_zero, List.set_cons_succ]; rfl) ?_
                 | refine Fx.pure_ rfl rfl (fun _ => by go_simp; first | done | rfl) (by simp only [List.set_cons_zero, List.set_cons_succ]; rfl) ?_)
            | (with_reducible refine Fx.lab1 ?_
               refine Fx.look rfl rfl (fun w' hC => by obtain ⟨hc, hf, hl⟩ := Ext.cells hC; go_simp; rfl) (by simp only [List.set_cons_zero, List.set_cons_succ]; rfl) ?_)
        refine Fx.done (fun w5 hC => ?_)
        have HI5 := Lib.hid (hI.out.ext' hC)
        obtain ⟨hB, hP'⟩ := p1_step hP.out (by omega) hfrN
        obtain ⟨c, hc⟩ : ∃ c, cnt (fr : Int) AC = c := ⟨_, rfl⟩
        have hcl : c ≤ 40 := by have := cnt_len (fr : Int) AC; omega
        have hcell := HI5.out.o.cell fr (by omega)
        have hcf := HI5.out.o.free fr
        have hcb := HI5.out.o.lt
        unfold nxA at hcell
        rw [hc] at hB hP' hcell
        have Hc := Lib.hid hc
        have HB := Lib.hid hB
        have HP' := Lib.hid hP'
        have hfr16 : fr < 16 := by omega
        have hfrI : (fr : Int) < 16 := by omega
        have hwc : IntKind.u32.wrap ((c : Int) + 1) = (c : Int) + 1 := IntWalk.u32_in _ ⟨by omega, by omega⟩
        clear hC j0 hwN hux hux0 hNz hNz2 hNz3 hfr hwf hB hP' hc
        go_upto_region 11 with fail
        refine wp_region_line [(0,0),(1,0),(2,1),(3,0),(4,0),(5,3)] (by kernel_rfl) (by kernel_rfl) (Ext w5) (fun _ _ h k => h.trans k) (Ext.refl _) ?_
        iterate 5
          first
            | refine Fx.skip rfl rfl (by simp only [List.set_cons_zero, List.set_cons_succ]; rfl) ?_
            | (with_reducible refine Fx.lab0 ?_
               first
                 | refine Fx.moveT rfl rfl rfl (by simp only [List.set_cons_zero, List.set_cons_succ]; rfl) ?_
                 | refine Fx.assignT rfl rfl rfl (by simp only [List.set_cons_zero, List.set_cons_succ]; rfl) ?_
                 | refine Fx.pure_ rfl rfl (fun _ => by go_simp; first | done | rfl) (by simp only [List.set_cons_zero, List.set_cons_succ]; rfl) ?_)
            | (with_reducible refine Fx.lab1 ?_
               refine Fx.look rfl rfl (fun w' hC => by obtain ⟨hc, hf, hl⟩ := Ext.cells hC; go_simp; rfl) (by simp only [List.set_cons_zero, List.set_cons_succ]; rfl) ?_)
        refine Fx.store ⟨nb, fr, none⟩ (.int .u32 ((c : Int) + 1)) rfl rfl (fun w' hC => by
          obtain ⟨hc, hf, hl⟩ := hC.cells
          have e1 := (hc _ fr hcb).trans hcell
          have e2 := (hf _ fr hcb).trans hcf
          clear hc hf hl
          go_simp) ?_
        refine Fx.done (fun w6 hC => ?_)
        obtain ⟨wa, x1, x2⟩ := hC
        obtain ⟨h, hh⟩ : ∃ h : Hp, ⟨1, fr, ⟨fr, (c : Int) + 1, ⟨#[]⟩⟩⟩ = h := ⟨_, rfl⟩
        have hm : h.m = ⟨fr, (c : Int) + 1, ⟨#[]⟩⟩ := by rw [← hh]
        have HI6 : Hid (AI w1 b sb mb nb lv (.slice iA AC.length icap) σ AC (nxA (AC ++ [h.m])) w6) := Lib.hid ((HI5.out.ext' x1).put hfr16 x2 (fun i _ => by
          unfold upd nxA
          rw [cnt_append, cnt_one, hm]
          by_cases e : i = fr
          · subst e; rw [if_pos rfl, if_pos rfl, Hc.out]; push_cast; rfl
          · rw [if_neg e, if_neg (by simp only; omega)]; simp))
        rw [hh] at HB HP'
        have Hh := Lib.hid hh
        have hcell2 := HI6.out.o.cell fr (by omega)
        have hcb2 := HI6.out.o.lt
        have hnv : nxA (AC ++ [h.m]) fr = .int .u32 ((c : Int) + 1) := by
          unfold nxA
          rw [cnt_append, cnt_one, hm]
          simp [Hc.out]
        rw [hnv] at hcell2
        clear x1 x2 hcell hcf hcb hh hm hnv hwc
        go_upto_region 12 with fail
        refine wp_region_line [(0,0),(1,0),(2,0),(3,0),(4,1),(5,1),(6,2),(7,3)] (by kernel_rfl) (by kernel_rfl) (Ext w6) (fun _ _ h k => h.trans k) (Ext.refl _) ?_
        iterate 5
          first
            | refine Fx.skip rfl rfl (by simp only [List.set_cons_zero, List.set_cons_succ]; rfl) ?_
            | (with_reducible refine Fx.lab0 ?_
               first
                 | refine Fx.moveT rfl rfl rfl (by simp only [List.set_cons_zero, List.set_cons_succ]; rfl) ?_
                 | refine Fx.assignT rfl rfl rfl (by simp only [List.set_cons_zero, List.set_cons_succ]; rfl) ?_
                 | refine Fx.pure_ rfl rfl (fun _ => by go_simp; first | done | rfl) (by simp only [List.set_cons_zero, List.set_cons_succ]; rfl) ?_)
            | (with_reducible refine Fx.lab1 ?_
               refine Fx.look rfl rfl (fun w' hC => by obtain ⟨hc, hf, hl⟩ := Ext.cells hC; go_simp; rfl) (by simp only [List.set_cons_zero, List.set_cons_succ]; rfl) ?_)
        refine Fx.call1 (v := h.val) (args := #[.int .i64 1, .int .i64 fr, .int .i64 fr, .int .u32 ((c : Int) + 1)]) rfl rfl (fun _ => by first | (go_simp; done) | (go_simp; rfl)) (fun w' hC => (hap_at 1 fr fr ((c : Int) + 1) w').mono (fun e w'' hh => by rw [Hh.out] at hh; exact hh)) (by simp only [List.set_cons_zero, List.set_cons_succ]; rfl) ?_
        refine Fx.mkPtr (fun B w' => w6.heap.size ≤ B ∧ Obj_ w' B 5 (hpF hp0)) (fun B _ _ h k => ⟨h.1, h.2.ext k⟩) rfl rfl (fun w' hC => stepAt_alloc_Hp hC) (fun B => ?_)
        simp only [List.set_cons_zero, List.set_cons_succ]
        refine Fx.eff0 (HpPre w6 B h) (hpPre_stable _ _ _) rfl rfl (fun w' hC => stepAt_mono (stepAt_store_Hp hC.1 hC.2.1 hC.2.2 h rfl rfl) (fun _ w'' h => ⟨h.1, hC.2.1, h.2⟩)) ?_
        refine Fx.done (fun w7 hC => ?_)
        obtain ⟨hC1, hBB, hOb⟩ := hC
        have HI7 := Lib.hid (HI6.out.ext' hC1)
        have hb5 : ∀ i u, h.enc[i]? = some u → w7.cell? ⟨B, i, none⟩ = some u := fun i u hu => by
          have h5 : i < 5 := by have := (List.getElem?_eq_some_iff.1 hu).1; simpa [Hp.enc] using this
          rw [hOb.cell i h5]; simp [hpF, hu]
        have d0 := hb5 0 _ rfl
        have d1 := hb5 1 _ rfl
        have d2 := hb5 2 _ rfl
        have d3 := hb5 3 _ rfl
        have d4 := hb5 4 _ rfl
        have dl := hOb.lt
        have hnF : ¬ FM b sb mb lv B := fun e => by have := HI6.out.m.lt e; omega
        have hiB : ∀ y, (Value.slice iA AC.length icap).ownBlock = some y → y ≠ B := fun y hy => by have := HI6.out.i.lt hy; omega
        have HiB := Lib.hid hiB
        clear hC1 hBB hOb hb5 hcell2 hcb2 hiB
        go_upto_region 13 with fail
        refine wp_region_line [(0,0),(1,1),(2,3),(3,0)] (by kernel_rfl) (by kernel_rfl) (Ext w7) (fun _ _ h k => h.trans k) (Ext.refl _) ?_
        first
          | refine Fx.skip rfl rfl (by simp only [List.set_cons_zero, List.set_cons_succ]; rfl) ?_
          | (with_reducible refine Fx.lab0 ?_
             first
               | refine Fx.moveT rfl rfl rfl (by simp only [List.set_cons_zero, List.set_cons_succ]; rfl) ?_
               | refine Fx.assignT rfl rfl rfl (by simp only [List.set_cons_zero, List.set_cons_succ]; rfl) ?_
               | refine Fx.pure_ rfl rfl (fun _ => by go_simp; first | done | rfl) (by simp only [List.set_cons_zero, List.set_cons_succ]; rfl) ?_)
          | (with_reducible refine Fx.lab1 ?_
             refine Fx.look rfl rfl (fun w' hC => by obtain ⟨hc, hf, hl⟩ := Ext.cells hC; go_simp; rfl) (by simp only [List.set_cons_zero, List.set_cons_succ]; rfl) ?_)
        refine Fx.look rfl rfl (op_load_Hp' (h := h) dl d0 d1 d2 d3 d4 rfl) (by simp only [List.set_cons_zero, List.set_cons_succ]; rfl) ?_
        refine Fx.callV (.int .i64 0) (fun w' => ∃ lv', ModelAt w' b sb mb lv' (hapT σ h) ∧ Mods (FM b sb mb lv) w7 w' ∧ ∀ y, lv'.ownBlock = some y → lv.ownBlock = some y ∨ w7.heap.size ≤ y) (fun _ _ h k => let ⟨lv', h1, h2, h3⟩ := h; ⟨lv', h1.ext k, h2.then_ k, h3⟩)
          (args := #[.pointer (some ⟨b, 0, none⟩), h.val]) rfl rfl (fun _ => by first | (go_simp; done) | (go_simp; rfl)) (fun w' hC => (happen_at b sb mb lv σ h w' (HI7.out.m.ext hC) hP.out.ok (by rw [hP.out.log]; simp)).mono (fun e w'' hh => ?_)) (by simp only [List.set_cons_zero, List.set_cons_succ]; rfl) ?_
        · obtain ⟨h1, lv', h2, h3, h4⟩ := hh
          rw [HB.out] at h1
          exact ⟨h1, lv', h2, h3.after hC, fun y hy => (h4 y hy).imp id (fun h => Nat.le_trans hC.size h)⟩
        first
          | refine Fx.skip rfl rfl (by simp only [List.set_cons_zero, List.set_cons_succ]; rfl) ?_
          | (with_reducible refine Fx.lab0 ?_
             first
               | refine Fx.moveT rfl rfl rfl (by simp only [List.set_cons_zero, List.set_cons_succ]; rfl) ?_
               | refine Fx.assignT rfl rfl rfl (by simp only [List.set_cons_zero, List.set_cons_succ]; rfl) ?_
               | refine Fx.pure_ rfl rfl (fun _ => by go_simp; first | done | rfl) (by simp only [List.set_cons_zero, List.set_cons_succ]; rfl) ?_)
          | (with_reducible refine Fx.lab1 ?_
             refine Fx.look rfl rfl (fun w' hC => by obtain ⟨hc, hf, hl⟩ := Ext.cells hC; go_simp; rfl) (by simp only [List.set_cons_zero, List.set_cons_succ]; rfl) ?_)
        refine Fx.done (fun w8 hC => ?_)
        obtain ⟨lv', g1, g2, g3⟩ := hC
        have HI8 := Lib.hid (HI7.out.hap g1 g2 g3)
        obtain ⟨xc, xf, xl⟩ := g2.cells
        replace d2 := (xc _ _ dl hnF).trans d2
        replace d3 := (xc _ _ dl hnF).trans d3
        replace d4 := (xc _ _ dl hnF).trans d4
        replace dl := xl _ dl
        have hlen : AC.length + 1 ≤ 1073741824 := by omega
        have HLEN := Lib.hid hlen
        clear g1 g2 g3 xc xf xl d0 d1 hlen
        go_upto_region 15 with fail
        refine wp_region_line [(0,0),(1,0),(2,1),(3,2),(4,3),(5,0)] (by kernel_rfl) (by kernel_rfl) (Ext w8) (fun _ _ h k => h.trans k) (Ext.refl _) ?_
        iterate 2
          first
            | refine Fx.skip rfl rfl (by simp only [List.set_cons_zero, List.set_cons_succ]; rfl) ?_
            | (with_reducible refine Fx.lab0 ?_
               first
                 | refine Fx.moveT rfl rfl rfl (by simp only [List.set_cons_zero, List.set_cons_succ]; rfl) ?_
                 | refine Fx.assignT rfl rfl rfl (by simp only [List.set_cons_zero, List.set_cons_succ]; rfl) ?_
                 | refine Fx.pure_ rfl rfl (fun _ => by go_simp; first | done | rfl) (by simp only [List.set_cons_zero, List.set_cons_succ]; rfl) ?_)
            | (with_reducible refine Fx.lab1 ?_
               refine Fx.look rfl rfl (fun w' hC => by obtain ⟨hc, hf, hl⟩ := Ext.cells hC; go_simp; rfl) (by simp only [List.set_cons_zero, List.set_cons_succ]; rfl) ?_)
        refine Fx.look rfl rfl (op_load_Ms' (o := 2) (m := h.m) dl d2 d3 d4 rfl) (by simp only [List.set_cons_zero, List.set_cons_succ]; rfl) ?_
        refine Fx.mkSl 1 1 (fun B w' => MsL w' (.slice (some ⟨B, 0, none⟩) 1 1) [h.m]) (fun B _ _ h k => h.ext k) rfl rfl (fun w' hC => stepAt_lit1 hC h.m rfl) (fun B2 => ?_)
        simp only [List.set_cons_zero, List.set_cons_succ]
        refine Fx.eff (fun v' w' => OwnMs w' v' (AC ++ [h.m]) ∧ Mods (fun c => (Value.slice iA AC.length icap).ownBlock = some c) w8 w' ∧ (∀ c, v'.ownBlock = some c → (Value.slice iA AC.length icap).ownBlock = some c ∨ w8.heap.size ≤ c)) (fun v _ _ h k => ⟨h.1.ext k, h.2.1.then_ k, h.2.2⟩) rfl rfl
          (fun w' hC => stepAt_append hC.1 (HI8.out.i.ext hC.1) hC.2 HLEN.out rfl rfl) (fun iv' => ?_)
        simp only [List.set_cons_zero, List.set_cons_succ]
        first
          | refine Fx.skip rfl rfl (by simp only [List.set_cons_zero, List.set_cons_succ]; rfl) ?_
          | (with_reducible refine Fx.lab0 ?_
             first
               | refine Fx.moveT rfl rfl rfl (by simp only [List.set_cons_zero, List.set_cons_succ]; rfl) ?_
               | refine Fx.assignT rfl rfl rfl (by simp only [List.set_cons_zero, List.set_cons_succ]; rfl) ?_
               | refine Fx.pure_ rfl rfl (fun _ => by go_simp; first | done | rfl) (by simp only [List.set_cons_zero, List.set_cons_succ]; rfl) ?_)
          | (with_reducible refine Fx.lab1 ?_
             refine Fx.look rfl rfl (fun w' hC => by obtain ⟨hc, hf, hl⟩ := Ext.cells hC; go_simp; rfl) (by simp only [List.set_cons_zero, List.set_cons_succ]; rfl) ?_)
        refine Fx.done (fun w9 hC => ?_)
        have HI9 := Lib.hid (HI8.out.app hC.1 hC.2.1 hC.2.2)
        clear hC d2 d3 d4 dl
        go_wp2
        go_roundw
        case rel => exact ⟨k + 1, lv', _, AC ++ [h.m], by omega, by omega, by go_num, by simp; omega, Lib.hid (by have := HP'.out; rw [← Hh.out] at this ⊢; exact this), HI9⟩
        case measure => simp [intOf]; omega
      · have hAl40 : AC.length ≤ 40 := by omega
        have hP2 := p2_of_p1 hP.out
        have HP2 := Lib.hid hP2
        have hstop : ¬ k < l.length ∨ (k < l.length ∧ k = 40) := by omega
        clear hP2 hgo hAl
        rcases hstop with hstop | ⟨hklt, hstop⟩
        · skip
          go_wp2
          generalize wr = wA at *
          go_loopw [13] (fun q wx => ∃ (nd : Nat) (lv : Value) (σ : MSt), nd ≤ N ∧ q = .int .i64 nd ∧ Hid (P2 σ N AC nd 0) ∧ Hid (AI w1 b sb mb nb lv (.slice iA AC.length icap) σ AC (nxA AC) wx)) (fun q _ => N - (intOf q).toNat)
          case atStart => exact ⟨0, lv, σ, Nat.zero_le _, rfl, HP2, hI⟩
          case round =>
            clear HP2 hI hP
            obtain ⟨nd, lv, σ, hnd, rfl, hP, hI⟩ := hrel
            have hwn : IntKind.i64.wrap ((nd : Int) + 1) = (nd : Int) + 1 := IntWalk.i64_in _ ⟨by omega, by omega⟩
            by_cases hlt : nd < N
            · go_wp2
              generalize wr = wB at *
              go_loopw [14] (fun q wx => ∃ (i : Nat) (lv : Value) (σ : MSt), i ≤ AC.length ∧ q = .int .i64 i ∧ Hid (P2 σ N AC nd i) ∧ Hid (AI w1 b sb mb nb lv (.slice iA AC.length icap) σ AC (nxA AC) wx)) (fun q _ => AC.length - (intOf q).toNat)
              case atStart => exact ⟨0, lv, σ, Nat.zero_le _, rfl, hP, hI⟩
              case round =>
                clear hP hI
                obtain ⟨i, lv, σ, hi, rfl, hP, hI⟩ := hrel
                have hwi : IntKind.i64.wrap ((i : Int) + 1) = (i : Int) + 1 := IntWalk.i64_in _ ⟨by omega, by omega⟩
                by_cases hil : i < AC.length
                · obtain ⟨jb, joff, rfl, hjb, j0, j1, j2⟩ := Sl.at3 (hI.out.i.sl Ms.len) hil
                  obtain ⟨m, hm⟩ : ∃ m, AC[i]? = some m := ⟨AC[i], by simp [hil]⟩
                  have hmi : AC[i] = m := by rw [List.getElem?_eq_getElem hil] at hm; exact Option.some.inj hm
                  rw [hmi] at j0 j1 j2
                  obtain ⟨hB, hP'⟩ := p2_step hP.out hlt hm
                  have hll : σ.log.length ≤ 1000000 := by
                    have := hP.out.log
                    rw [this]; split
                    · rw [List.length_take]; omega
                    · omega
                  have HB := Lib.hid hB
                  have HP' := Lib.hid hP'
                  have HLL := Lib.hid hll
                  clear hm hmi hB hP' hll
                  go_upto_region 22 with fail
                  refine wp_region_line [(0,0),(1,0),(2,0),(3,0),(4,0),(5,1),(6,0),(7,3),(8,0)] (by kernel_rfl) (by kernel_rfl) (Ext wr) (fun _ _ h k => h.trans k) (Ext.refl _) ?_
                  iterate 5
                    first
                      | refine Fx.skip rfl rfl (by simp only [List.set_cons_zero, List.set_cons_succ]; rfl) ?_
                      | (with_reducible refine Fx.lab0 ?_
                         first
                           | refine Fx.moveT rfl rfl rfl (by simp only [List.set_cons_zero, List.set_cons_succ]; rfl) ?_
                           | refine Fx.assignT rfl rfl rfl (by simp only [List.set_cons_zero, List.set_cons_succ]; rfl) ?_
                           | refine Fx.pure_ rfl rfl (fun _ => by go_simp; first | done | rfl) (by simp only [List.set_cons_zero, List.set_cons_succ]; rfl) ?_)
                      | (with_reducible refine Fx.lab1 ?_
                         refine Fx.look rfl rfl (fun w' hC => by obtain ⟨hc, hf, hl⟩ := Ext.cells hC; go_simp; rfl) (by simp only [List.set_cons_zero, List.set_cons_succ]; rfl) ?_)
                  refine Fx.look rfl rfl (op_load_Ms' (m := m) hjb j0 j1 j2 rfl) (by simp only [List.set_cons_zero, List.set_cons_succ]; rfl) ?_
                  refine Fx.pure_ (v := Hp.val ⟨3, nd, m⟩) rfl rfl (fun _ => by unfold Ms.val Hp.val; first | (go_simp; done) | (go_simp; rfl)) (by simp only [List.set_cons_zero, List.set_cons_succ]; rfl) ?_
                  refine Fx.callV (.int .i64 0) (fun w' => ∃ lv', ModelAt w' b sb mb lv' (hapT σ ⟨3, nd, m⟩) ∧ Mods (FM b sb mb lv) wr w' ∧ ∀ y, lv'.ownBlock = some y → lv.ownBlock = some y ∨ wr.heap.size ≤ y) (fun _ _ h k => let ⟨lv', h1, h2, h3⟩ := h; ⟨lv', h1.ext k, h2.then_ k, h3⟩)
                    (args := #[.pointer (some ⟨b, 0, none⟩), Hp.val ⟨3, nd, m⟩]) rfl rfl (fun _ => by first | (go_simp; done) | (go_simp; rfl)) (fun w' hC => (happen_at b sb mb lv σ ⟨3, nd, m⟩ w' (hI.out.m.ext hC) hP.out.ok HLL.out).mono (fun e w'' hh => ?_)) (by simp only [List.set_cons_zero, List.set_cons_succ]; rfl) ?_
                  · obtain ⟨h1, lv', h2, h3, h4⟩ := hh
                    rw [HB.out] at h1
                    exact ⟨h1, lv', h2, h3.after hC, fun y hy => (h4 y hy).imp id (fun h => Nat.le_trans hC.size h)⟩
                  first
                    | refine Fx.skip rfl rfl (by simp only [List.set_cons_zero, List.set_cons_succ]; rfl) ?_
                    | (with_reducible refine Fx.lab0 ?_
                       first
                         | refine Fx.moveT rfl rfl rfl (by simp only [List.set_cons_zero, List.set_cons_succ]; rfl) ?_
                         | refine Fx.assignT rfl rfl rfl (by simp only [List.set_cons_zero, List.set_cons_succ]; rfl) ?_
                         | refine Fx.pure_ rfl rfl (fun _ => by go_simp; first | done | rfl) (by simp only [List.set_cons_zero, List.set_cons_succ]; rfl) ?_)
                    | (with_reducible refine Fx.lab1 ?_
                       refine Fx.look rfl rfl (fun w' hC => by obtain ⟨hc, hf, hl⟩ := Ext.cells hC; go_simp; rfl) (by simp only [List.set_cons_zero, List.set_cons_succ]; rfl) ?_)
                  refine Fx.done (fun w8 hC => ?_)
                  obtain ⟨lv', g1, g2, g3⟩ := hC
                  have HI8 := Lib.hid (hI.out.hap g1 g2 g3)
                  clear g1 g2 g3 j0 j1 j2
                  go_wp2
                  go_roundw
                  case rel => exact ⟨i + 1, lv', _, by omega, by go_num, HP', HI8⟩
                  case measure => simp [intOf]; omega
                · have hiL : i = AC.length := by omega
                  have HPn := Lib.hid (p2_next (by have := hP.out; rwa [hiL] at this))
                  go_wp2
                  go_roundw
                  case rel => exact ⟨nd + 1, lv, σ, by omega, by go_num, HPn, hI⟩
                  case measure => simp [intOf]; omega
            · have hnN : nd = N := by omega
              obtain ⟨hlog, hdel⟩ := p2_end (by have := hP.out; rwa [hnN] at this) (by omega)
              have HLog := Lib.hid hlog
              have HDel := Lib.hid hdel
              have HOk := Lib.hid hP.out.ok
              have HNn := Lib.hid hP.out.n
              clear hlog hdel hP
              go_wp2
              clear hlt hnN hwn hnd
              generalize wr = wB at *
              go_loopw [15] (fun q wx => ∃ (j : Nat), j ≤ N ∧ q = .int .i64 j ∧ Hid (Ext wB wx)) (fun q _ => N - (intOf q).toNat)
              case atStart => exact ⟨0, Nat.zero_le _, rfl, Lib.hid (Ext.refl _)⟩
              case round =>
                obtain ⟨j, hj, rfl, hEx⟩ := hrel
                have hwj : IntKind.i64.wrap ((j : Int) + 1) = (j : Int) + 1 := IntWalk.i64_in _ ⟨by omega, by omega⟩
                have HI9 := Lib.hid (hI.out.ext' hEx.out)
                have hll : σ.log.length ≤ 1000000 := by rw [HLog.out]; omega
                have HLL := Lib.hid hll
                clear hll
                by_cases hjl : j < N
                · have hbz : (σ.log.length : Int) - σ.del j = 0 := by rw [HLog.out, HDel.out j hjl]; omega
                  have HBz := Lib.hid hbz
                  have Hjl := Lib.hid (show j < σ.n by rw [HNn.out]; exact hjl)
                  clear hbz
                  go_upto_region 26 with (go_at_call 18; refine (behind_at HI9.out.m HOk.out HLL.out j Hjl.out).mono ?_; rw [HBz.out]; rintro e w10 ⟨rfl, hE10⟩; have HE10 := Lib.hid hE10; clear hE10)
                  go_wp2
                  go_roundw
                  case rel => exact ⟨j + 1, by omega, by go_num, Lib.hid (hEx.out.trans HE10.out)⟩
                  case measure => simp [intOf]; omega
                · have hsame : sameB AC AC = true := by simp [sameB]
                  have HSame := Lib.hid hsame
                  clear hsame
                  go_upto_region 29 with fail
                  refine wp_region_line [(0,0),(1,0),(2,0),(3,2),(4,0),(5,1),(6,0),(7,0)] (by kernel_rfl) (by kernel_rfl) (Ext wr) (fun _ _ h k => h.trans k) (Ext.refl _) ?_
                  iterate 3
                    first
                      | refine Fx.skip rfl rfl (by simp only [List.set_cons_zero, List.set_cons_succ]; rfl) ?_
                      | (with_reducible refine Fx.lab0 ?_
                         first
                           | refine Fx.moveT rfl rfl rfl (by simp only [List.set_cons_zero, List.set_cons_succ]; rfl) ?_
                           | refine Fx.assignT rfl rfl rfl (by simp only [List.set_cons_zero, List.set_cons_succ]; rfl) ?_
                           | refine Fx.pure_ rfl rfl (fun _ => by go_simp; first | done | rfl) (by simp only [List.set_cons_zero, List.set_cons_succ]; rfl) ?_)
                      | (with_reducible refine Fx.lab1 ?_
                         refine Fx.look rfl rfl (fun w' hC => by obtain ⟨hc, hf, hl⟩ := Ext.cells hC; go_simp; rfl) (by simp only [List.set_cons_zero, List.set_cons_succ]; rfl) ?_)
                  refine Fx.mk (fun v' w' => OwnMs w' v' AC) (fun _ _ _ h k => h.ext k) rfl rfl (fun w' hC => ?_) (fun lg' => ?_)
                  · unfold stepAt
                    rw [show (execOp _ _).run Try.prog w' = .ok (.enter 17 #[.pointer (some ⟨b, 0, none⟩)]) w' from by first | (go_simp; done) | (go_simp; rfl)]
                    exact (log_at (HI9.out.m.ext hC) HLL.out).mono (fun e w'' hh => by
                      obtain ⟨v', rfl, h1, h2, h3⟩ := hh
                      rw [HLog.out] at h1
                      exact ⟨_, rfl, h2, h1⟩)
                  simp only [List.set_cons_zero, List.set_cons_succ]
                  first
                    | refine Fx.skip rfl rfl (by simp only [List.set_cons_zero, List.set_cons_succ]; rfl) ?_
                    | (with_reducible refine Fx.lab0 ?_
                       first
                         | refine Fx.moveT rfl rfl rfl (by simp only [List.set_cons_zero, List.set_cons_succ]; rfl) ?_
                         | refine Fx.assignT rfl rfl rfl (by simp only [List.set_cons_zero, List.set_cons_succ]; rfl) ?_
                         | refine Fx.pure_ rfl rfl (fun _ => by go_simp; first | done | rfl) (by simp only [List.set_cons_zero, List.set_cons_succ]; rfl) ?_)
                    | (with_reducible refine Fx.lab1 ?_
                       refine Fx.look rfl rfl (fun w' hC => by obtain ⟨hc, hf, hl⟩ := Ext.cells hC; go_simp; rfl) (by simp only [List.set_cons_zero, List.set_cons_succ]; rfl) ?_)
                  refine Fx.call1 (v := .bool true) (args := #[lg', .slice iA AC.length icap]) rfl rfl (fun _ => by first | (go_simp; done) | (go_simp; rfl)) (fun w' hC => (same_ref _ _ AC AC w' (hC.2.sl Ms.len) ((HI9.out.i.ext hC.1).sl Ms.len) (by omega)).mono (fun e w'' hh => by rw [HSame.out] at hh; exact hh)) (by simp only [List.set_cons_zero, List.set_cons_succ]; rfl) ?_
                  iterate 2
                    first
                      | refine Fx.skip rfl rfl (by simp only [List.set_cons_zero, List.set_cons_succ]; rfl) ?_
                      | (with_reducible refine Fx.lab0 ?_
                         first
                           | refine Fx.moveT rfl rfl rfl (by simp only [List.set_cons_zero, List.set_cons_succ]; rfl) ?_
                           | refine Fx.assignT rfl rfl rfl (by simp only [List.set_cons_zero, List.set_cons_succ]; rfl) ?_
                           | refine Fx.pure_ rfl rfl (fun _ => by go_simp; first | done | rfl) (by simp only [List.set_cons_zero, List.set_cons_succ]; rfl) ?_)
                      | (with_reducible refine Fx.lab1 ?_
                         refine Fx.look rfl rfl (fun w' hC => by obtain ⟨hc, hf, hl⟩ := Ext.cells hC; go_simp; rfl) (by simp only [List.set_cons_zero, List.set_cons_succ]; rfl) ?_)
                  refine Fx.done (fun w10 hC => ?_)
                  have HC := Lib.hid hC.1
                  clear hC
                  go_wp2
                  go_ret
                  exact ⟨rfl, H1.out.trans (HI9.out.e.trans HC.out)⟩
        · subst hstop
          go_wp2
          generalize wr = wA at *
          go_loopw [13] (fun q wx => ∃ (nd : Nat) (lv : Value) (σ : MSt), nd ≤ N ∧ q = .int .i64 nd ∧ Hid (P2 σ N AC nd 0) ∧ Hid (AI w1 b sb mb nb lv (.slice iA AC.length icap) σ AC (nxA AC) wx)) (fun q _ => N - (intOf q).toNat)
          case atStart => exact ⟨0, lv, σ, Nat.zero_le _, rfl, HP2, hI⟩
          case round =>
            clear HP2 hI hP
            obtain ⟨nd, lv, σ, hnd, rfl, hP, hI⟩ := hrel
            have hwn : IntKind.i64.wrap ((nd : Int) + 1) = (nd : Int) + 1 := IntWalk.i64_in _ ⟨by omega, by omega⟩
            by_cases hlt : nd < N
            · go_wp2
              generalize wr = wB at *
              go_loopw [14] (fun q wx => ∃ (i : Nat) (lv : Value) (σ : MSt), i ≤ AC.length ∧ q = .int .i64 i ∧ Hid (P2 σ N AC nd i) ∧ Hid (AI w1 b sb mb nb lv (.slice iA AC.length icap) σ AC (nxA AC) wx)) (fun q _ => AC.length - (intOf q).toNat)
              case atStart => exact ⟨0, lv, σ, Nat.zero_le _, rfl, hP, hI⟩
              case round =>
                clear hP hI
                obtain ⟨i, lv, σ, hi, rfl, hP, hI⟩ := hrel
                have hwi : IntKind.i64.wrap ((i : Int) + 1) = (i : Int) + 1 := IntWalk.i64_in _ ⟨by omega, by omega⟩
                by_cases hil : i < AC.length
                · obtain ⟨jb, joff, rfl, hjb, j0, j1, j2⟩ := Sl.at3 (hI.out.i.sl Ms.len) hil
                  obtain ⟨m, hm⟩ : ∃ m, AC[i]? = some m := ⟨AC[i], by simp [hil]⟩
                  have hmi : AC[i] = m := by rw [List.getElem?_eq_getElem hil] at hm; exact Option.some.inj hm
                  rw [hmi] at j0 j1 j2
                  obtain ⟨hB, hP'⟩ := p2_step hP.out hlt hm
                  have hll : σ.log.length ≤ 1000000 := by
                    have := hP.out.log
                    rw [this]; split
                    · rw [List.length_take]; omega
                    · omega
                  have HB := Lib.hid hB
                  have HP' := Lib.hid hP'
                  have HLL := Lib.hid hll
                  clear hm hmi hB hP' hll
                  go_upto_region 22 with fail
                  refine wp_region_line [(0,0),(1,0),(2,0),(3,0),(4,0),(5,1),(6,0),(7,3),(8,0)] (by kernel_rfl) (by kernel_rfl) (Ext wr) (fun _ _ h k => h.trans k) (Ext.refl _) ?_
                  iterate 5
                    first
                      | refine Fx.skip rfl rfl (by simp only [List.set_cons_zero, List.set_cons_succ]; rfl) ?_
                      | (with_reducible refine Fx.lab0 ?_
                         first
                           | refine Fx.moveT rfl rfl rfl (by simp only [List.set_cons_zero, List.set_cons_succ]; rfl) ?_
                           | refine Fx.assignT rfl rfl rfl (by simp only [List.set_cons_zero, List.set_cons_succ]; rfl) ?_
                           | refine Fx.pure_ rfl rfl (fun _ => by go_simp; first | done | rfl) (by simp only [List.set_cons_zero, List.set_cons_succ]; rfl) ?_)
                      | (with_reducible refine Fx.lab1 ?_
                         refine Fx.look rfl rfl (fun w' hC => by obtain ⟨hc, hf, hl⟩ := Ext.cells hC; go_simp; rfl) (by simp only [List.set_cons_zero, List.set_cons_succ]; rfl) ?_)
                  refine Fx.look rfl rfl (op_load_Ms' (m := m) hjb j0 j1 j2 rfl) (by simp only [List.set_cons_zero, List.set_cons_succ]; rfl) ?_
                  refine Fx.pure_ (v := Hp.val ⟨3, nd, m⟩) rfl rfl (fun _ => by unfold Ms.val Hp.val; first | (go_simp; done) | (go_simp; rfl)) (by simp only [List.set_cons_zero, List.set_cons_succ]; rfl) ?_
                  refine Fx.callV (.int .i64 0) (fun w' => ∃ lv', ModelAt w' b sb mb lv' (hapT σ ⟨3, nd, m⟩) ∧ Mods (FM b sb mb lv) wr w' ∧ ∀ y, lv'.ownBlock = some y → lv.ownBlock = some y ∨ wr.heap.size ≤ y) (fun _ _ h k => let ⟨lv', h1, h2, h3⟩ := h; ⟨lv', h1.ext k, h2.then_ k, h3⟩)
                    (args := #[.pointer (some ⟨b, 0, none⟩), Hp.val ⟨3, nd, m⟩]) rfl rfl (fun _ => by first | (go_simp; done) | (go_simp; rfl)) (fun w' hC => (happen_at b sb mb lv σ ⟨3, nd, m⟩ w' (hI.out.m.ext hC) hP.out.ok HLL.out).mono (fun e w'' hh => ?_)) (by simp only [List.set_cons_zero, List.set_cons_succ]; rfl) ?_
                  · obtain ⟨h1, lv', h2, h3, h4⟩ := hh
                    rw [HB.out] at h1
                    exact ⟨h1, lv', h2, h3.after hC, fun y hy => (h4 y hy).imp id (fun h => Nat.le_trans hC.size h)⟩
                  first
                    | refine Fx.skip rfl rfl (by simp only [List.set_cons_zero, List.set_cons_succ]; rfl) ?_
                    | (with_reducible refine Fx.lab0 ?_
                       first
                         | refine Fx.moveT rfl rfl rfl (by simp only [List.set_cons_zero, List.set_cons_succ]; rfl) ?_
                         | refine Fx.assignT rfl rfl rfl (by simp only [List.set_cons_zero, List.set_cons_succ]; rfl) ?_
                         | refine Fx.pure_ rfl rfl (fun _ => by go_simp; first | done | rfl) (by simp only [List.set_cons_zero, List.set_cons_succ]; rfl) ?_)
                    | (with_reducible refine Fx.lab1 ?_
                       refine Fx.look rfl rfl (fun w' hC => by obtain ⟨hc, hf, hl⟩ := Ext.cells hC; go_simp; rfl) (by simp only [List.set_cons_zero, List.set_cons_succ]; rfl) ?_)
                  refine Fx.done (fun w8 hC => ?_)
                  obtain ⟨lv', g1, g2, g3⟩ := hC
                  have HI8 := Lib.hid (hI.out.hap g1 g2 g3)
                  clear g1 g2 g3 j0 j1 j2
                  go_wp2
                  go_roundw
                  case rel => exact ⟨i + 1, lv', _, by omega, by go_num, HP', HI8⟩
                  case measure => simp [intOf]; omega
                · have hiL : i = AC.length := by omega
                  have HPn := Lib.hid (p2_next (by have := hP.out; rwa [hiL] at this))
                  go_wp2
                  go_roundw
                  case rel => exact ⟨nd + 1, lv, σ, by omega, by go_num, HPn, hI⟩
                  case measure => simp [intOf]; omega
            · have hnN : nd = N := by omega
              obtain ⟨hlog, hdel⟩ := p2_end (by have := hP.out; rwa [hnN] at this) (by omega)
              have HLog := Lib.hid hlog
              have HDel := Lib.hid hdel
              have HOk := Lib.hid hP.out.ok
              have HNn := Lib.hid hP.out.n
              clear hlog hdel hP
              go_wp2
              clear hlt hnN hwn hnd
              generalize wr = wB at *
              go_loopw [15] (fun q wx => ∃ (j : Nat), j ≤ N ∧ q = .int .i64 j ∧ Hid (Ext wB wx)) (fun q _ => N - (intOf q).toNat)
              case atStart => exact ⟨0, Nat.zero_le _, rfl, Lib.hid (Ext.refl _)⟩
              case round =>
                obtain ⟨j, hj, rfl, hEx⟩ := hrel
                have hwj : IntKind.i64.wrap ((j : Int) + 1) = (j : Int) + 1 := IntWalk.i64_in _ ⟨by omega, by omega⟩
                have HI9 := Lib.hid (hI.out.ext' hEx.out)
                have hll : σ.log.length ≤ 1000000 := by rw [HLog.out]; omega
                have HLL := Lib.hid hll
                clear hll
                by_cases hjl : j < N
                · have hbz : (σ.log.length : Int) - σ.del j = 0 := by rw [HLog.out, HDel.out j hjl]; omega
                  have HBz := Lib.hid hbz
                  have Hjl := Lib.hid (show j < σ.n by rw [HNn.out]; exact hjl)
                  clear hbz
                  go_upto_region 26 with (go_at_call 18; refine (behind_at HI9.out.m HOk.out HLL.out j Hjl.out).mono ?_; rw [HBz.out]; rintro e w10 ⟨rfl, hE10⟩; have HE10 := Lib.hid hE10; clear hE10)
                  go_wp2
                  go_roundw
                  case rel => exact ⟨j + 1, by omega, by go_num, Lib.hid (hEx.out.trans HE10.out)⟩
                  case measure => simp [intOf]; omega
                · have hsame : sameB AC AC = true := by simp [sameB]
                  have HSame := Lib.hid hsame
                  clear hsame
                  go_upto_region 29 with fail
                  refine wp_region_line [(0,0),(1,0),(2,0),(3,2),(4,0),(5,1),(6,0),(7,0)] (by kernel_rfl) (by kernel_rfl) (Ext wr) (fun _ _ h k => h.trans k) (Ext.refl _) ?_
                  iterate 3
                    first
                      | refine Fx.skip rfl rfl (by simp only [List.set_cons_zero, List.set_cons_succ]; rfl) ?_
                      | (with_reducible refine Fx.lab0 ?_
                         first
                           | refine Fx.moveT rfl rfl rfl (by simp only [List.set_cons_zero, List.set_cons_succ]; rfl) ?_
                           | refine Fx.assignT rfl rfl rfl (by simp only [List.set_cons_zero, List.set_cons_succ]; rfl) ?_
                           | refine Fx.pure_ rfl rfl (fun _ => by go_simp; first | done | rfl) (by simp only [List.set_cons_zero, List.set_cons_succ]; rfl) ?_)
                      | (with_reducible refine Fx.lab1 ?_
                         refine Fx.look rfl rfl (fun w' hC => by obtain ⟨hc, hf, hl⟩ := Ext.cells hC; go_simp; rfl) (by simp only [List.set_cons_zero, List.set_cons_succ]; rfl) ?_)
                  refine Fx.mk (fun v' w' => OwnMs w' v' AC) (fun _ _ _ h k => h.ext k) rfl rfl (fun w' hC => ?_) (fun lg' => ?_)
                  · unfold stepAt
                    rw [show (execOp _ _).run Try.prog w' = .ok (.enter 17 #[.pointer (some ⟨b, 0, none⟩)]) w' from by first | (go_simp; done) | (go_simp; rfl)]
                    exact (log_at (HI9.out.m.ext hC) HLL.out).mono (fun e w'' hh => by
                      obtain ⟨v', rfl, h1, h2, h3⟩ := hh
                      rw [HLog.out] at h1
                      exact ⟨_, rfl, h2, h1⟩)
                  simp only [List.set_cons_zero, List.set_cons_succ]
                  first
                    | refine Fx.skip rfl rfl (by simp only [List.set_cons_zero, List.set_cons_succ]; rfl) ?_
                    | (with_reducible refine Fx.lab0 ?_
                       first
                         | refine Fx.moveT rfl rfl rfl (by simp only [List.set_cons_zero, List.set_cons_succ]; rfl) ?_
                         | refine Fx.assignT rfl rfl rfl (by simp only [List.set_cons_zero, List.set_cons_succ]; rfl) ?_
                         | refine Fx.pure_ rfl rfl (fun _ => by go_simp; first | done | rfl) (by simp only [List.set_cons_zero, List.set_cons_succ]; rfl) ?_)
                    | (with_reducible refine Fx.lab1 ?_
                       refine Fx.look rfl rfl (fun w' hC => by obtain ⟨hc, hf, hl⟩ := Ext.cells hC; go_simp; rfl) (by simp only [List.set_cons_zero, List.set_cons_succ]; rfl) ?_)
                  refine Fx.call1 (v := .bool true) (args := #[lg', .slice iA AC.length icap]) rfl rfl (fun _ => by first | (go_simp; done) | (go_simp; rfl)) (fun w' hC => (same_ref _ _ AC AC w' (hC.2.sl Ms.len) ((HI9.out.i.ext hC.1).sl Ms.len) (by omega)).mono (fun e w'' hh => by rw [HSame.out] at hh; exact hh)) (by simp only [List.set_cons_zero, List.set_cons_succ]; rfl) ?_
                  iterate 2
                    first
                      | refine Fx.skip rfl rfl (by simp only [List.set_cons_zero, List.set_cons_succ]; rfl) ?_
                      | (with_reducible refine Fx.lab0 ?_
                         first
                           | refine Fx.moveT rfl rfl rfl (by simp only [List.set_cons_zero, List.set_cons_succ]; rfl) ?_
                           | refine Fx.assignT rfl rfl rfl (by simp only [List.set_cons_zero, List.set_cons_succ]; rfl) ?_
                           | refine Fx.pure_ rfl rfl (fun _ => by go_simp; first | done | rfl) (by simp only [List.set_cons_zero, List.set_cons_succ]; rfl) ?_)
                      | (with_reducible refine Fx.lab1 ?_
                         refine Fx.look rfl rfl (fun w' hC => by obtain ⟨hc, hf, hl⟩ := Ext.cells hC; go_simp; rfl) (by simp only [List.set_cons_zero, List.set_cons_succ]; rfl) ?_)
                  refine Fx.done (fun w10 hC => ?_)
                  have HC := Lib.hid hC.1
                  clear hC
                  go_wp2
                  go_ret
                  exact ⟨rfl, H1.out.trans (HI9.out.e.trans HC.out)⟩
  · have Hn := Lib.hid hn
    clear hn
    go_wp2_with (go_at_call 13; refine (new_no _ n Hn.out).mono ?_; rintro e w3 ⟨rfl, rfl⟩)
    go_ret
    exact ⟨rfl, H1.out⟩
end Go.Proofs.Ytfnchpjiebojiaa
