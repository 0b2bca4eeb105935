/-
  batch.Pool: Batch.
-/
import Derived.Test.YtkkcdoajdhbofaaBatch0
namespace Go.Proofs.Ytkkcdoajdhbofaa
open Go.RowKit
attribute [local go_sem] Oper.semAt_some

def btL (b B6 Bt Bq : Nat) (n : Int) (v7 v18 : Value) : List Value :=
  [.pointer (some ⟨b, 0, none⟩), .int .i64 n, undef, .pointer (some ⟨Bt, 0, none⟩), .slice none 0 0, .int .i64 0, .pointer (some ⟨B6, 0, none⟩), v7, .pointer (some ⟨b, 0, none⟩), .bool false,
   .int .i64 n, .bool false, .bool false, .int .i64 n, .bool false, .bool false, .pointer (some ⟨b, 0, none⟩), .func (.func 33) #[] #[.pointer (some ⟨Bq, 0, none⟩)], v18,
   undef, undef, undef, undef, undef, undef, undef, undef, undef]
def BtI (w w0 : World) (B6 Bt n : Nat) (L : List Ms) (k : Nat) (T : Nat → Prop) (W : World) : Prop := PdI w w0 B6 (some (Bt, (n : Int))) L k T W ∧ k ≤ n
def BtA (w w0 : World) (b B6 Bt Bq n : Nat) (L : List Ms) (k : Nat) (T : Nat → Prop) (a' : Act) (W : World) : Prop :=
  BtI w w0 B6 Bt n L k T W ∧ ∃ B4, w0.heap.size + 2 ≤ B4 ∧ ¬ T B4 ∧ Obj_ W B4 3 (msF (L.getD k ms0)) ∧ a' = Act.mk (btL b B6 Bt Bq n (.pointer (some ⟨B4, 0, none⟩)) (L.getD k ms0).val).toArray []
structure BtX (w w0 : World) (B6 n : Nat) (L : List Ms) (c : Code) (k : Nat) (W : World) : Prop where
  jump : c = .exit 0
  ex : ∃ nv, Obj_ W B6 1 (fun _ => nv) ∧ OwnMs W nv (L.take n) ∧ (∀ y, nv.ownBlock = some y → w0.heap.size + 2 ≤ y)
  e : Ext w W

set_option maxRecDepth 100000 in
set_option maxHeartbeats 3200000 in
theorem batch_in {w : World} {b mw md : Nat} {σ : PSt} (h : PoolAt w b mw md σ) (hO : σ.Ok) (n : Nat) (hn1 : 1 ≤ n) (hn2 : n ≤ 64) :
    CallsIn Fence.wide 5 Try.prog 15 #[.pointer (some ⟨b, 0, none⟩), .int .i64 n] w (BatchR w σ n) := by
  have hF := wideF_wide
  have hE0 := Ext.alloc w (.cells #[.int .i64 (n : Int)] 3)
  have ot := Obj_.new w 3 #[.int .i64 (n : Int)] (fun _ => .int .i64 (n : Int)) (by intro i hi; simp at hi; subst hi; rfl)
  have H := Lib.hid (h.ext hE0)
  have HE0 := Lib.hid hE0
  have Hot := Lib.hid ot
  have HO := Lib.hid hO
  have hL1000 : (pend σ).length ≤ 1000 := by rw [pend_len]; exact hO.len
  have HL := Lib.hid hL1000
  have hbl : batchL σ n = (pend σ).take n := by unfold batchL; rw [if_pos (by omega), Int.toNat_natCast]
  have hbe : batchE n = 0 := by unfold batchE; rw [if_pos (by omega)]
  obtain ⟨L, hL⟩ : ∃ L, pend σ = L := ⟨_, rfl⟩
  rw [hL] at HL hbl
  have HLe := Lib.hid hL
  have HBL := Lib.hid hbl
  have HBE := Lib.hid hbe
  have hct := ot.cell 0 (by simp)
  have hlt := ot.lt
  have t1 : decide ((n : Int) < 1) = false := by simp; omega
  have t2 : decide (64 < (n : Int)) = false := by simp; omega
  have t3 : decide (n < 1) = false := by simp; omega
  have t4 : decide (64 < n) = false := by simp; omega
  clear h hO hL1000 hL hE0 ot hbl hbe
  refine callsIn_of_wp_marks Try.func15 rfl trivial ?_
  simp only [Try.ntmps15, List.size_toArray, List.length_cons, List.length_nil, Nat.reduceAdd, Nat.reduceSub, Array.replicate_succ, Array.replicate_zero, List.push_toArray, List.append_toArray, List.nil_append, List.cons_append]
  gi_wp2
  refine wpIn_scope_straight ?_
  generalize hW : w.alloc (.cells #[.int .i64 (n : Int)] 3) = w1 at *
  gi_upto_region 5 with (refine ⟨trivial, ?_⟩; gi_at_call 26; refine (hF.calls (isNil_at H.out)).mono ?_; rintro e w' ⟨rfl, rfl⟩)
  refine wpIn_region_line hF [(0,2)] (by kernel_rfl) (by kernel_rfl) (Ext w') (fun _ _ h k => h.trans k) (Ext.refl _) ?_
  refine Fx.mkPtr (fun B w2 => w'.heap.size ≤ B ∧ Obj_ w2 B 1 (fun _ => .slice none 0 0)) (fun B _ _ h k => ⟨h.1, h.2.ext k⟩) rfl rfl (fun w2 hC => stepAt_alloc_sl hC) (fun B3 => ?_)
  simp only [List.set_cons_zero, List.set_cons_succ]
  refine Fx.done (fun w2 hC => ?_)
  obtain ⟨hC1, hB3, hO3⟩ := hC
  have HE2 := Lib.hid (HE0.out.trans hC1)
  have HE12 := Lib.hid hC1
  have H2 := Lib.hid (H.out.ext hC1)
  have HB3 := Lib.hid hB3
  have HO3 := Lib.hid hO3
  have Hot2 := Lib.hid (Hot.out.ext hC1)
  clear hC1 hB3 hO3 t1 t2 t3 t4 hct
  gi_wp2
  refine wpIn_label ?_
  gi_upto_region 6 with fail
  refine wpIn_region_line hF [(0,0),(1,2)] (by kernel_rfl) (by kernel_rfl) (Ext w2) (fun _ _ h k => h.trans k) (Ext.refl _) ?_
  first
    | refine Fx.skip rfl rfl (by simp only [List.set_cons_zero, List.set_cons_succ]; rfl) ?_
    | (with_reducible refine Fx.lab0 ?_
       first
         | refine Fx.moveT rfl rfl rfl (by simp only [List.set_cons_zero, List.set_cons_succ]; rfl) ?_
         | refine Fx.assignT rfl rfl rfl (by simp only [List.set_cons_zero, List.set_cons_succ]; rfl) ?_
         | refine Fx.pure_ rfl rfl (fun _ => by go_simp; first | done | rfl) (by simp only [List.set_cons_zero, List.set_cons_succ]; rfl) ?_)
    | (with_reducible refine Fx.lab1 ?_
       refine Fx.look rfl rfl (fun w' hC => by obtain ⟨hc, hf, hl⟩ := Ext.cells hC; go_simp; rfl) (by simp only [List.set_cons_zero, List.set_cons_succ]; rfl) ?_)
  refine Fx.mkBy (β := Nat) (fun p => .func (.func 33) #[] #[.pointer (some ⟨p, 0, none⟩)])
    (fun p w' => w2.heap.size ≤ p ∧ Obj_ w' p 1 (fun _ => .pointer (some ⟨b, 0, none⟩))) (fun p _ _ h k => ⟨h.1, h.2.ext k⟩) rfl rfl (fun w'' hC => ?_) (fun Bq => ?_)
  · unfold stepAt
    rw [show (execOp _ _).run Try.prog w'' = .ok (.enter 30 #[.pointer (some ⟨b, 0, none⟩)]) w'' from by first | (go_simp; done) | (go_simp; rfl)]
    exact (sorted_at w'' b).mono (fun e w3 hh => by
      obtain ⟨Bq, rfl, h1, h2, h3⟩ := hh
      have := hC.size
      exact ⟨_, rfl, Bq, rfl, h1, by omega, h3⟩)
  simp only [List.set_cons_zero, List.set_cons_succ]
  refine Fx.done (fun w0 hC => ?_)
  obtain ⟨hC0, hq1, oq⟩ := hC
  have s01 := HE0.out.size
  have s12 := HE12.out.size
  have hP : PdP w w0 B3 (some (w.heap.size, (n : Int))) := ⟨(HE2.out.trans hC0).size, by have := HB3.out; omega, by have := HO3.out.lt; have := hC0.size; omega, fun Bt m e => by
    injection e with e
    injection e with e1 e2
    have := hC0.size
    have := HB3.out
    omega⟩
  have HP := Lib.hid hP
  have I0 : BtI w w0 B3 w.heap.size n L 0 (fun x => x = B3) w0 :=
    ⟨⟨⟨.slice none 0 0, fun x => by simp [Value.ownBlock], HO3.out.ext hC0, Own.nil, fun y hy => by simp [Value.ownBlock] at hy⟩, fun Bt m e => by
      injection e with e
      injection e with e1 e2
      subst e1; subst e2
      exact Hot2.out.ext hC0, HE2.out.trans hC0⟩, Nat.zero_le _⟩
  have HI0 := Lib.hid I0
  have HQ := Lib.hid oq
  have H0 := Lib.hid (H2.out.ext hC0)
  clear hP I0 oq hq1 hC0 s01 s12
  gi_wp2
  refine rangeFunc_lawT hF rfl (gf := 33) (lb := #[.pointer (some ⟨Bq, 0, none⟩)]) ?hg (fun args w => callFunc_at _ (by kernel_rfl) args w)
    L.length (fun k => #[(L.getD k ms0).val]) (fun _ _ => rfl) (BtI w w0 B3 w.heap.size n L) (fun _ _ => True) (BtX w w0 B3 n L)
    ?hII ?hTB ?hTl ?hI ?hIx (fun x => x = B3) ?hT0 ?h0 ?hseq (BtA w w0 b B3 w.heap.size Bq n L) ?hA ?hassign ?hbody ?hdone ?hstop
  case hg => rfl
  case hII => exact fun k T W h => trivial
  case hTB => exact fun k T W h => h.1.tb HP.out
  case hTl => exact fun k T W h => h.1.tl
  case hI => exact fun k T W W' S h hm hS => ⟨h.1.mods HP.out hm hS, h.2⟩
  case hIx =>
    rintro c k W W' ⟨h1, ⟨nv, h2, h3, h4⟩, h5⟩ hm
    have hb1 := HP.out.b1
    have hws := HP.out.ws
    exact ⟨h1, ⟨nv, h2.mods hm (by unfold Bk; omega), h3.mods hm (fun c hc => by have := h4 c hc; unfold Bk; omega), h4⟩, ((h5.mods _).trans hm (fun _ _ h => h)).ext_of (fun x hx h => by unfold Bk at h; omega)⟩
  case hT0 => exact fun x hx => HI0.out.1.tl x hx
  case h0 => exact HI0.out
  case hseq =>
    intro W hm
    have hq := HQ.out.mods hm (by have := HQ.out.lt; unfold Bk; omega)
    have hp := H0.out.mods hm (fun x hx h => by have := H0.out.lt hx; unfold Bk at h; omega)
    have := sorted_iter hF rfl (5 - 1) (fun _ _ => True) b mw md σ HO.out Bq W (hq.cell 0 (by decide)) hp
    rw [HLe.out] at this
    exact this
  case hA =>
    rintro k T a' W W' ⟨h1, B8, h2, h3, h4, h5⟩ hm
    exact ⟨⟨h1.1.mods HP.out hm (fun x hx => ⟨by unfold Bk at hx; omega, h1.1.tb HP.out x hx⟩), h1.2⟩, B8, h2, h3, h4.mods hm (by unfold Bk; omega), h5⟩
  case hassign =>
    intro l k T W hk hi hs
    simp only [List.zip_toArray, List.zip_cons_cons, List.zip_nil_left, List.zip_nil_right, List.foldl_toArray, List.foldl_toArray', List.foldl_cons, List.foldl_nil, List.setIfInBounds_toArray, List.set_cons_succ, List.set_cons_zero]
    show Code.wpIn (Fence.wide.inRound l) _ _ _ _ (Act.mk (btL b B3 w.heap.size Bq n undef (L.getD k ms0).val).toArray []) W
    obtain ⟨y, hy⟩ : ∃ y, L.getD k ms0 = y := ⟨_, rfl⟩
    rw [hy]
    unfold btL
    refine wpIn_region_line (hF.inRound l) [(0,2),(1,3)] (by kernel_rfl) (by kernel_rfl) (Ext W) (fun _ _ h k => h.trans k) (Ext.refl _) ?_
    refine Fx.mkPtr (fun B w' => W.heap.size ≤ B ∧ Obj_ w' B 3 (msF ms0)) (fun B _ _ h k => ⟨h.1, h.2.ext k⟩) rfl rfl (fun w' hC => stepAt_alloc_Ms hC) (fun B => ?_)
    simp only [List.set_cons_zero, List.set_cons_succ]
    refine Fx.eff0 (MsPre W B y) (msPre_stable _ _ _) rfl rfl (fun w' hC => stepAt_mono (stepAt_store_Ms hC.1 hC.2.1 hC.2.2 y rfl rfl) (fun _ w'' h => ⟨h.1, hC.2.1, h.2⟩)) ?_
    refine Fx.done (fun w3 hC => ?_)
    obtain ⟨hC1, hB, hOb⟩ := hC
    exact ⟨hC1, ⟨hi.1.mods HP.out (hC1.mods (fun _ => False)) (fun _ h => h.elim), hi.2⟩, B, Nat.le_trans hs hB, fun h => by have := hi.1.tl B h; omega, by rw [hy]; exact hOb, by rw [hy]; rfl⟩
  case hbody =>
    rintro l k T a' W hk ⟨⟨hi, hkn⟩, B4, hB4, hT4, hO4, rfl⟩ hs
    have hFq := hF.inRound l
    obtain ⟨y, hy⟩ : ∃ y, L[k]? = some y := ⟨L[k], by simp [hk]⟩
    have hgk : L.getD k ms0 = y := by rw [List.getD_eq_getElem?_getD, hy]; rfl
    rw [hgk] at hO4 ⊢
    obtain ⟨nv, hT, h7, hown, hnf⟩ := hi.ex
    obtain ⟨nA, ncap, hnv, -⟩ := hown.val
    have hlk : (L.take k).length = k := by rw [List.length_take]; omega
    rw [hlk] at hnv
    subst hnv
    clear hlk
    have hot := hi.t _ _ rfl
    have hct := hot.cell 0 (by decide)
    have hlt' := hot.lt
    obtain ⟨d0, d1, d2⟩ := hO4.ms
    have dl := hO4.lt
    have hc7 := h7.cell 0 (by decide)
    have hf7 := h7.free 0
    have hl7 := h7.lt
    have HT := Lib.hid hT
    have HI := Lib.hid hi
    have H7 := Lib.hid h7
    have HOW := Lib.hid hown
    have HNF := Lib.hid hnf
    have Hy := Lib.hid hy
    have hnv7 : ∀ c, Value.ownBlock (.slice nA k ncap) = some c → c ≠ B3 := fun c hc => by have := hnf c hc; have := HP.out.b1; omega
    have HNV7 := Lib.hid hnv7
    have hln : (L.take k).length + 1 ≤ 1073741824 := by have := HL.out; rw [List.length_take]; omega
    have HLN := Lib.hid hln
    have HT4 := Lib.hid hT4
    clear hgk hy hi hT h7 hown hnf hT4 hnv7 hln hO4 hot
    unfold btL
    by_cases hkn2 : k = n
    · have hb : ((k : Int) == (n : Int)) = true := by simp [hkn2]
      have Hkn := Lib.hid hkn2
      clear hkn2 hkn
      gi_wp2
      refine ⟨Mods.refl _ _, rfl, ⟨_, H7.out, by have := HOW.out; rwa [Hkn.out] at this ⊢, by have := HNF.out; rwa [Hkn.out] at this ⊢⟩, HI.out.e⟩
    · have hb : ((k : Int) == (n : Int)) = false := by simp; omega
      have hkn3 : k + 1 ≤ n := by omega
      clear hkn2 hkn
      gi_upto_region 9 with fail
      refine wpIn_region_line hFq [(0,1),(1,1),(2,2),(3,3),(4,3)] (by kernel_rfl) (by kernel_rfl) (Ext W) (fun _ _ h k => h.trans k) (Ext.refl _) ?_
      first
        | refine Fx.skip rfl rfl (by simp only [List.set_cons_zero, List.set_cons_succ]; rfl) ?_
        | (with_reducible refine Fx.lab0 ?_
           first
             | refine Fx.moveT rfl rfl rfl (by simp only [List.set_cons_zero, List.set_cons_succ]; rfl) ?_
             | refine Fx.assignT rfl rfl rfl (by simp only [List.set_cons_zero, List.set_cons_succ]; rfl) ?_
             | refine Fx.pure_ rfl rfl (fun _ => by go_simp; first | done | rfl) (by simp only [List.set_cons_zero, List.set_cons_succ]; rfl) ?_)
        | (with_reducible refine Fx.lab1 ?_
           refine Fx.look rfl rfl (fun w' hC => by obtain ⟨hc, hf, hl⟩ := Ext.cells hC; go_simp; rfl) (by simp only [List.set_cons_zero, List.set_cons_succ]; rfl) ?_)
      refine Fx.look rfl rfl (op_load_Ms' (m := y) dl d0 d1 d2 rfl) (by simp only [List.set_cons_zero, List.set_cons_succ]; rfl) ?_
      refine Fx.mkSl 1 1 (fun B w' => MsL w' (.slice (some ⟨B, 0, none⟩) 1 1) [y]) (fun B _ _ h k => h.ext k) rfl rfl (fun w' hC => stepAt_lit1 hC y rfl) (fun B => ?_)
      simp only [List.set_cons_zero, List.set_cons_succ]
      refine Fx.eff (fun v' w' => OwnMs w' v' (L.take k ++ [y]) ∧ Mods (fun c => Value.ownBlock (.slice nA k ncap) = some c) W w' ∧ (∀ c, v'.ownBlock = some c → Value.ownBlock (.slice nA k ncap) = some c ∨ W.heap.size ≤ c)) (fun v _ _ h k => ⟨h.1.ext k, h.2.1.then_ k, h.2.2⟩) rfl rfl
        (fun w' hC => stepAt_append hC.1 (HOW.out.ext hC.1) hC.2 (by simpa using HLN.out) rfl rfl) (fun nv' => ?_)
      simp only [List.set_cons_zero, List.set_cons_succ]
      refine Fx.store ⟨B3, 0, none⟩ nv' rfl rfl (fun w' hC => by
        obtain ⟨hc, hf, hl⟩ := hC.2.1.cells
        have e1 := (hc B3 0 hl7 (fun h => HNV7.out _ h rfl)).trans hc7
        have e2 := (hf B3 0 hl7 (fun h => HNV7.out _ h rfl)).trans hf7
        obtain ⟨A, n, vv⟩ : ∃ A n cap, nv' = .slice A n cap := by obtain ⟨A, cap, e, _⟩ := hC.1.val; exact ⟨_, _, _, e⟩
        obtain ⟨cap, rfl⟩ := vv
        clear hc hf hl hC
        go_simp) ?_
      refine Fx.done (fun w6 hC => ?_)
      obtain ⟨w5, ⟨h5, h5', h5''⟩, h6⟩ := hC
      have HF6 := Lib.hid (PdI.push HP.out Hy.out HT.out H7.out HNF.out HI.out.t HI.out.e (Ext.refl W) h5 h5' h5'' hs h6)
      clear h5 h5' h5'' h6 d0 d1 d2 dl hc7 hf7 hl7
      gi_wp2
      obtain ⟨T', q1, q2, q3⟩ := HF6.out
      exact ⟨T', q1, q2, q3, hkn3⟩
  case hdone =>
    intro T W hI hD hs
    obtain ⟨⟨⟨nv, hT, h7, hown, hnf⟩, hI2, hI3⟩, hkn⟩ := hI
    rw [List.take_length] at hown
    have hc7 := h7.cell 0 (by decide)
    have hl7 := h7.lt
    have HOW := Lib.hid hown
    have HNF := Lib.hid hnf
    have HE := Lib.hid hI3
    have HD := Lib.hid hD
    clear hI2 hI3 hT h7 hown hnf hD
    gi_wp2
    refine ⟨by simp, .inl ⟨_, _, rfl, run_takeDeferred HD.out, ?_⟩⟩
    have mD : Mods (· = w0.heap.size) W (W.putObj w0.heap.size (.deferred none)) := Mods.putObj _ _ _
    refine ⟨_, results_tmp2 rfl _ _ _, ?_⟩
    have hws := HP.out.ws
    refine ⟨nv, by rw [HBE.out]; rfl, ?_, ((HE.out.mods (fun x => x = w0.heap.size)).trans mD (fun _ _ h => h)).ext_of (fun x hx h => by omega), fun x hx => by have := HNF.out x hx; omega⟩
    rw [HBL.out, List.take_of_length_le hkn]
    exact HOW.out.mods mD (fun c hc e => by have := HNF.out c hc; omega)
  case hstop =>
    rintro c k W hk ⟨rfl, ⟨nv, h7, hown, hnf⟩, hI3⟩ hD hs
    have hc7 := h7.cell 0 (by decide)
    have hl7 := h7.lt
    have HOW := Lib.hid hown
    have HNF := Lib.hid hnf
    have HE := Lib.hid hI3
    have HD := Lib.hid hD
    clear hI3 h7 hown hnf hD
    gi_wp2
    refine ⟨by simp, .inl ⟨_, _, rfl, run_takeDeferred HD.out, ?_⟩⟩
    have mD : Mods (· = w0.heap.size) W (W.putObj w0.heap.size (.deferred none)) := Mods.putObj _ _ _
    refine ⟨_, results_tmp2 rfl _ _ _, ?_⟩
    have hws := HP.out.ws
    refine ⟨nv, by rw [HBE.out]; rfl, ?_, ((HE.out.mods (fun x => x = w0.heap.size)).trans mD (fun _ _ h => h)).ext_of (fun x hx h => by omega), fun x hx => by have := HNF.out x hx; omega⟩
    rw [HBL.out]
    exact HOW.out.mods mD (fun c hc e => by have := HNF.out c hc; omega)
theorem batch_at {w : World} {b mw md : Nat} {σ : PSt} (h : PoolAt w b mw md σ) (hO : σ.Ok) (n : Int) : Calls Try.prog 15 #[.pointer (some ⟨b, 0, none⟩), .int .i64 n] w (BatchR w σ n) := by
  by_cases hn : 1 ≤ n ∧ n ≤ 64
  · obtain ⟨N, rfl⟩ : ∃ N : Nat, n = N := ⟨n.toNat, by omega⟩
    exact (callsIn_wide (n := 5)).1 (batch_in h hO N (by omega) (by omega))
  · exact batch_bad h n hn
end Go.Proofs.Ytkkcdoajdhbofaa
