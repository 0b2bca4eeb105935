/-
  batch.Pool: Pending.
-/
import Derived.Test.YtkkcdoajdhbofaaSorted
import Derived.Test.YtkkcdoajdhbofaaDone
namespace Go.Proofs.Ytkkcdoajdhbofaa
open Go.RowKit
attribute [local go_sem] Oper.semAt_some

/-- Where the blocks lie. -/
structure PdP (w w0 : World) (B3 : Nat) (bt : Option (Nat × Int)) : Prop where
  ws : w.heap.size ≤ w0.heap.size
  b0 : w.heap.size ≤ B3
  b1 : B3 < w0.heap.size
  t : ∀ Bt n, bt = some (Bt, n) → Bt < w0.heap.size ∧ Bt ≠ B3
/-- Between two rounds. -/
structure PdI (w w0 : World) (B3 : Nat) (bt : Option (Nat × Int)) (L : List Ms) (k : Nat) (T : Nat → Prop) (W : World) : Prop where
  ex : ∃ nv, (∀ x, T x ↔ (x = B3 ∨ nv.ownBlock = some x)) ∧ Obj_ W B3 1 (fun _ => nv) ∧ OwnMs W nv (L.take k) ∧ (∀ y, nv.ownBlock = some y → w0.heap.size + 2 ≤ y)
  t : ∀ Bt n, bt = some (Bt, n) → Obj_ W Bt 1 (fun _ => .int .i64 n)
  e : Ext w W
theorem PdI.mods {w w0 W W' : World} {B3 : Nat} {bt : Option (Nat × Int)} {L : List Ms} {k : Nat} {T S : Nat → Prop} (hP : PdP w w0 B3 bt) (h : PdI w w0 B3 bt L k T W) (hm : Mods S W W') (hS : ∀ x, S x → w0.heap.size ≤ x ∧ ¬ T x) : PdI w w0 B3 bt L k T W' := by
  obtain ⟨nv, hT, h7, hn, hf⟩ := h.ex
  have := hP.ws; have := hP.b1
  refine ⟨⟨nv, hT, h7.mods hm (fun hs => by have := (hS _ hs).1; omega), hn.mods hm (fun y hy hs => (hS _ hs).2 ((hT y).2 (.inr hy))), hf⟩, fun Bt n e => (h.t Bt n e).mods hm (fun hs => by have := (hS _ hs).1; have := (hP.t Bt n e).1; omega), ?_⟩
  exact ((h.e.mods S).trans hm (fun _ _ h => h)).ext_of (fun x hx hs => by have := (hS _ hs).1; omega)
theorem PdI.tb {w w0 W : World} {B3 : Nat} {bt : Option (Nat × Int)} {L : List Ms} {k : Nat} {T : Nat → Prop} (hP : PdP w w0 B3 bt) (h : PdI w w0 B3 bt L k T W) : ∀ x, Bk w0 x → ¬ T x := fun x hx ht => by
  obtain ⟨nv, hT, h7, hn, hf⟩ := h.ex
  have := hP.b1
  unfold Bk at hx
  rcases (hT x).1 ht with h | h
  · omega
  · have := hf x h; omega
theorem PdI.tl {w w0 W : World} {B3 : Nat} {bt : Option (Nat × Int)} {L : List Ms} {k : Nat} {T : Nat → Prop} (h : PdI w w0 B3 bt L k T W) : ∀ x, T x → x < W.heap.size := fun x ht => by
  obtain ⟨nv, hT, h7, hn, hf⟩ := h.ex
  rcases (hT x).1 ht with rfl | h'
  · exact h7.lt
  · exact hn.lt h'
/-- A round's append. -/
theorem PdI.push {w w0 W w2 w5 w6 : World} {B3 : Nat} {bt : Option (Nat × Int)} {L : List Ms} {k : Nat} {T : Nat → Prop} {nv nv' : Value} {y : Ms} (hP : PdP w w0 B3 bt) (hk : L[k]? = some y) (hT : ∀ x, T x ↔ (x = B3 ∨ nv.ownBlock = some x)) (h7 : Obj_ W B3 1 (fun _ => nv)) (hf : ∀ c, nv.ownBlock = some c → w0.heap.size + 2 ≤ c) (ht : ∀ Bt n, bt = some (Bt, n) → Obj_ W Bt 1 (fun _ => .int .i64 n)) (he : Ext w W)
    (h2 : Ext W w2) (h5 : OwnMs w5 nv' (L.take k ++ [y])) (h5' : Mods (fun c => nv.ownBlock = some c) w2 w5) (h5'' : ∀ c, nv'.ownBlock = some c → nv.ownBlock = some c ∨ w2.heap.size ≤ c) (hs : w0.heap.size + 2 ≤ W.heap.size) (h6 : Ext (w5.setCell ⟨B3, 0, none⟩ nv') w6) :
    ∃ T', Mods T W w6 ∧ (∀ x, T' x → T x ∨ W.heap.size ≤ x) ∧ PdI w w0 B3 bt L (k + 1) T' w6 := by
  have m6 : Mods (· = B3) w5 w6 := (Mods.setCell w5 B3 _ _).then_ h6
  have hsz := h2.size
  have b1 := hP.b1
  have htk : L.take (k + 1) = L.take k ++ [y] := by
    obtain ⟨hk1, hk2⟩ := List.getElem?_eq_some_iff.1 hk
    rw [List.take_succ_eq_append_getElem hk1, hk2]
  have hn7 : ∀ c, nv.ownBlock = some c → c ≠ B3 := fun c hc => by have := hf c hc; omega
  refine ⟨fun x => x = B3 ∨ nv'.ownBlock = some x, ?_, ?_, ⟨nv', fun _ => Iff.rfl, ?_, ?_, ?_⟩, ?_, ?_⟩
  · exact ((h2.mods T).trans h5' (fun c _ h => (hT c).2 (.inr h))).trans m6 (fun c _ h => (hT c).2 (.inl h))
  · intro x hx
    rcases hx with h | h
    · exact .inl ((hT x).2 (.inl h))
    · rcases h5'' x h with h | h
      · exact .inl ((hT x).2 (.inr h))
      · exact .inr (by omega)
  · exact ((((h7.ext h2).mods h5' (fun h => hn7 _ h rfl)).set (i := 0) (by decide) nv').ext h6).congr (fun i hi => by unfold upd; rw [if_pos (by omega)])
  · rw [htk]
    refine h5.mods m6 (fun c hc e => ?_)
    rcases h5'' c hc with h | h
    · exact hn7 c h e
    · have := h7.lt; omega
  · intro c hc
    rcases h5'' c hc with h | h
    · exact hf c h
    · omega
  · intro Bt n e
    have h1 := hP.t Bt n e
    exact (((ht Bt n e).ext h2).mods h5' (fun h => by have := hf _ h; omega)).mods m6 (by omega)
  · exact ((((he.trans h2).mods (fun x => w.heap.size ≤ x)).trans h5' (fun x _ h => by have := hf x h; have := hP.ws; omega)).trans m6 (fun x _ h => by have := hP.b0; omega)).ext_of (fun x hx h => by omega)

theorem run_alloc_sl (w : World) : (Instr.alloc 30 true (.tuple #[])).run Try.prog w = .ok (.pointer (some ⟨w.heap.size, 0, none⟩)) (w.alloc (.cells #[.slice none 0 0] 30)) := by
  simp [go_sem, Try.zeroValue30]
theorem stepAt_alloc_sl {a : Act} {d : Option Tmp} {t : TypeId} {s : String} {af : Array Edge} {g : Option (Nat × Bool)} {W w : World} (hC : Ext W w) : stepAt Try.prog ⟨d, .alloc 30, t, s, af, g⟩ a w (fun u w' => ∃ b, u = .pointer (some ⟨b, 0, none⟩) ∧ Ext w w' ∧ W.heap.size ≤ b ∧ Obj_ w' b 1 (fun _ => .slice none 0 0)) := by
  unfold stepAt
  simp only [execOp, Sem.run_bind, run_alloc_sl, Result.andThen_ok]
  exact ⟨_, rfl, Ext.alloc _ _, hC.size, Obj_.new w 30 #[.slice none 0 0] (fun _ => .slice none 0 0) (by intro i hi; simp at hi; subst hi; rfl)⟩

def PendR (w : World) (L : List Ms) (e : Ending) (w' : World) : Prop := ∃ nv, e = .returned nv ∧ OwnMs w' nv L ∧ Ext w w' ∧ ∀ x, nv.ownBlock = some x → w.heap.size ≤ x
theorem pend_nil (w : World) : Calls Try.prog 20 #[.pointer none] w fun e w' => e = .returned (.slice none 0 0) ∧ w' = w := by
  go_enter Try.func20, Try.ntmps20
  go_wp2_with (go_at_call 26; refine (isNil_nil _).mono ?_; rintro e w' ⟨rfl, rfl⟩)
  go_ret
  exact ⟨rfl, rfl⟩
def pdL (b B3 Bq : Nat) (v4 v9 : Value) : List Value :=
  [.pointer (some ⟨b, 0, none⟩), undef, .slice none 0 0, .pointer (some ⟨B3, 0, none⟩), v4, .pointer (some ⟨b, 0, none⟩), .bool false, .pointer (some ⟨b, 0, none⟩), .func (.func 33) #[] #[.pointer (some ⟨Bq, 0, none⟩)], v9,
   undef, undef, undef, undef, undef]
def PdA (w w0 : World) (b B3 Bq : Nat) (L : List Ms) (k : Nat) (T : Nat → Prop) (a' : Act) (W : World) : Prop :=
  PdI w w0 B3 none L k T W ∧ ∃ B4, w0.heap.size + 2 ≤ B4 ∧ ¬ T B4 ∧ Obj_ W B4 3 (msF (L.getD k ms0)) ∧ a' = Act.mk (pdL b B3 Bq (.pointer (some ⟨B4, 0, none⟩)) (L.getD k ms0).val).toArray []

set_option maxRecDepth 100000 in
set_option maxHeartbeats 3200000 in
theorem pend_in {w : World} {b mw md : Nat} {σ : PSt} (h : PoolAt w b mw md σ) (hO : σ.Ok) :
    CallsIn Fence.wide 5 Try.prog 20 #[.pointer (some ⟨b, 0, none⟩)] w (PendR w (pend σ)) := by
  have hF := wideF_wide
  have H := Lib.hid h
  have HO := Lib.hid hO
  have hL1000 : (pend σ).length ≤ 1000 := by rw [pend_len]; exact hO.len
  have HL := Lib.hid hL1000
  obtain ⟨L, hL⟩ : ∃ L, pend σ = L := ⟨_, rfl⟩
  rw [hL] at HL ⊢
  have HLe := Lib.hid hL
  clear h hO hL1000 hL
  refine callsIn_of_wp_marks Try.func20 rfl trivial ?_
  simp only [Try.ntmps20, List.size_toArray, List.length_cons, List.length_nil, Nat.reduceAdd, Nat.reduceSub, Array.replicate_succ, Array.replicate_zero, List.push_toArray, List.append_toArray, List.nil_append, List.cons_append]
  gi_upto_region 3 with (refine ⟨trivial, ?_⟩; gi_at_call 26; refine (hF.calls (isNil_at H.out)).mono ?_; rintro e w' ⟨rfl, rfl⟩)
  refine wpIn_region_line hF [(0,2)] (by kernel_rfl) (by kernel_rfl) (Ext w') (fun _ _ h k => h.trans k) (Ext.refl _) ?_
  refine Fx.mkPtr (fun B w2 => w'.heap.size ≤ B ∧ Obj_ w2 B 1 (fun _ => .slice none 0 0)) (fun B _ _ h k => ⟨h.1, h.2.ext k⟩) rfl rfl (fun w2 hC => stepAt_alloc_sl hC) (fun B3 => ?_)
  simp only [List.set_cons_zero, List.set_cons_succ]
  refine Fx.done (fun w2 hC => ?_)
  obtain ⟨hC1, hB3, hO3⟩ := hC
  have HE2 := Lib.hid hC1
  have H2 := Lib.hid (H.out.ext hC1)
  have HB3 := Lib.hid hB3
  have HO3 := Lib.hid hO3
  clear hC1 hB3 hO3
  gi_upto_region 4 with fail
  refine wpIn_region_line hF [(0,0),(1,2)] (by kernel_rfl) (by kernel_rfl) (Ext w2) (fun _ _ h k => h.trans k) (Ext.refl _) ?_
  first
    | refine Fx.skip rfl rfl (by simp only [List.set_cons_zero, List.set_cons_succ]; rfl) ?_
    | (with_reducible refine Fx.lab0 ?_
       first
         | refine Fx.moveT rfl rfl rfl (by simp only [List.set_cons_zero, List.set_cons_succ]; rfl) ?_
         | refine Fx.assignT rfl rfl rfl (by simp only [List.set_cons_zero, List.set_cons_succ]; rfl) ?_
         | refine Fx.pure_ rfl rfl (fun _ => by go_simp; first | done | rfl) (by simp only [List.set_cons_zero, List.set_cons_succ]; rfl) ?_)
    | (with_reducible refine Fx.lab1 ?_
       refine Fx.look rfl rfl (fun w' hC => by obtain ⟨hc, hf, hl⟩ := Ext.cells hC; go_simp; rfl) (by simp only [List.set_cons_zero, List.set_cons_succ]; rfl) ?_)
  refine Fx.mkBy (β := Nat) (fun p => .func (.func 33) #[] #[.pointer (some ⟨p, 0, none⟩)])
    (fun p w' => w2.heap.size ≤ p ∧ Obj_ w' p 1 (fun _ => .pointer (some ⟨b, 0, none⟩))) (fun p _ _ h k => ⟨h.1, h.2.ext k⟩) rfl rfl (fun w'' hC => ?_) (fun Bq => ?_)
  · unfold stepAt
    rw [show (execOp _ _).run Try.prog w'' = .ok (.enter 30 #[.pointer (some ⟨b, 0, none⟩)]) w'' from by first | (go_simp; done) | (go_simp; rfl)]
    exact (sorted_at w'' b).mono (fun e w3 hh => by
      obtain ⟨Bq, rfl, h1, h2, h3⟩ := hh
      have := hC.size
      exact ⟨_, rfl, Bq, rfl, h1, by omega, h3⟩)
  simp only [List.set_cons_zero, List.set_cons_succ]
  refine Fx.done (fun w0 hC => ?_)
  obtain ⟨hC0, hq1, oq⟩ := hC
  have hP : PdP w' w0 B3 none := ⟨(HE2.out.trans hC0).size, HB3.out, by have := HO3.out.lt; have := hC0.size; omega, fun _ _ h => by cases h⟩
  have HP := Lib.hid hP
  have I0 : PdI w' w0 B3 none L 0 (fun x => x = B3) w0 :=
    ⟨⟨.slice none 0 0, fun x => by simp [Value.ownBlock], HO3.out.ext hC0, Own.nil, fun y hy => by simp [Value.ownBlock] at hy⟩, fun _ _ h => (by cases h), HE2.out.trans hC0⟩
  have HI0 := Lib.hid I0
  have HQ := Lib.hid oq
  have H0 := Lib.hid (H2.out.ext hC0)
  clear hP I0 oq hq1 hC0
  gi_wp2
  refine rangeFunc_lawT hF rfl (gf := 33) (lb := #[.pointer (some ⟨Bq, 0, none⟩)]) ?hg (fun args w => callFunc_at _ (by kernel_rfl) args w)
    L.length (fun k => #[(L.getD k ms0).val]) (fun _ _ => rfl) (PdI w' w0 B3 none L) (fun _ _ => True) (fun _ _ _ => False)
    ?hII ?hTB ?hTl ?hI ?hIx (fun x => x = B3) ?hT0 ?h0 ?hseq (PdA w' w0 b B3 Bq L) ?hA ?hassign ?hbody ?hdone ?hstop
  case hg => rfl
  case hII => exact fun k T W h => trivial
  case hTB => exact fun k T W h => h.tb HP.out
  case hTl => exact fun k T W h => h.tl
  case hI => exact fun k T W W' S h hm hS => h.mods HP.out hm hS
  case hIx => exact fun _ _ _ _ h _ => h.elim
  case hT0 => exact fun x hx => HI0.out.tl x hx
  case h0 => exact HI0.out
  case hseq =>
    intro W hm
    have hq := HQ.out.mods hm (by have := HQ.out.lt; unfold Bk; omega)
    have hp := H0.out.mods hm (fun x hx h => by have := H0.out.lt hx; unfold Bk at h; omega)
    have := sorted_iter hF rfl (5 - 1) (fun _ _ => True) b mw md σ HO.out Bq W (hq.cell 0 (by decide)) hp
    rw [HLe.out] at this
    exact this
  case hA =>
    rintro k T a' W W' ⟨h1, B8, h2, h3, h4, h5⟩ hm
    exact ⟨h1.mods HP.out hm (fun x hx => ⟨by unfold Bk at hx; omega, h1.tb HP.out x hx⟩), B8, h2, h3, h4.mods hm (by unfold Bk; omega), h5⟩
  case hassign =>
    intro l k T W hk hi hs
    simp only [List.zip_toArray, List.zip_cons_cons, List.zip_nil_left, List.zip_nil_right, List.foldl_toArray, List.foldl_toArray', List.foldl_cons, List.foldl_nil, List.setIfInBounds_toArray, List.set_cons_succ, List.set_cons_zero]
    show Code.wpIn (Fence.wide.inRound l) _ _ _ _ (Act.mk (pdL b B3 Bq undef (L.getD k ms0).val).toArray []) W
    obtain ⟨y, hy⟩ : ∃ y, L.getD k ms0 = y := ⟨_, rfl⟩
    rw [hy]
    unfold pdL
    refine wpIn_region_line (hF.inRound l) [(0,2),(1,3)] (by kernel_rfl) (by kernel_rfl) (Ext W) (fun _ _ h k => h.trans k) (Ext.refl _) ?_
    refine Fx.mkPtr (fun B w' => W.heap.size ≤ B ∧ Obj_ w' B 3 (msF ms0)) (fun B _ _ h k => ⟨h.1, h.2.ext k⟩) rfl rfl (fun w' hC => stepAt_alloc_Ms hC) (fun B => ?_)
    simp only [List.set_cons_zero, List.set_cons_succ]
    refine Fx.eff0 (MsPre W B y) (msPre_stable _ _ _) rfl rfl (fun w' hC => stepAt_mono (stepAt_store_Ms hC.1 hC.2.1 hC.2.2 y rfl rfl) (fun _ w'' h => ⟨h.1, hC.2.1, h.2⟩)) ?_
    refine Fx.done (fun w3 hC => ?_)
    obtain ⟨hC1, hB, hOb⟩ := hC
    exact ⟨hC1, hi.mods HP.out (hC1.mods (fun _ => False)) (fun _ h => h.elim), B, Nat.le_trans hs hB, fun h => by have := hi.tl B h; omega, by rw [hy]; exact hOb, by rw [hy]; rfl⟩
  case hbody =>
    rintro l k T a' W hk ⟨hi, B4, hB4, hT4, hO4, rfl⟩ hs
    have hFq := hF.inRound l
    obtain ⟨y, hy⟩ : ∃ y, L[k]? = some y := ⟨L[k], by simp [hk]⟩
    have hgk : L.getD k ms0 = y := by rw [List.getD_eq_getElem?_getD, hy]; rfl
    rw [hgk] at hO4 ⊢
    obtain ⟨nv, hT, h7, hown, hnf⟩ := hi.ex
    obtain ⟨d0, d1, d2⟩ := hO4.ms
    have dl := hO4.lt
    have hc7 := h7.cell 0 (by decide)
    have hf7 := h7.free 0
    have hl7 := h7.lt
    have HT := Lib.hid hT
    have HI := Lib.hid hi
    have H7 := Lib.hid h7
    have HOW := Lib.hid hown
    have HNF := Lib.hid hnf
    have Hy := Lib.hid hy
    have hnv7 : ∀ c, nv.ownBlock = some c → c ≠ B3 := fun c hc => by have := hnf c hc; have := HP.out.b1; omega
    have HNV7 := Lib.hid hnv7
    have hln : (L.take k).length + 1 ≤ 1073741824 := by have := HL.out; rw [List.length_take]; omega
    have HLN := Lib.hid hln
    clear hgk hy hi hT h7 hown hnf hT4 hnv7 hln hO4
    unfold pdL
    gi_upto_region 6 with fail
    refine wpIn_region_line hFq [(0,1),(1,1),(2,2),(3,3),(4,3)] (by kernel_rfl) (by kernel_rfl) (Ext W) (fun _ _ h k => h.trans k) (Ext.refl _) ?_
    first
      | refine Fx.skip rfl rfl (by simp only [List.set_cons_zero, List.set_cons_succ]; rfl) ?_
      | (with_reducible refine Fx.lab0 ?_
         first
           | refine Fx.moveT rfl rfl rfl (by simp only [List.set_cons_zero, List.set_cons_succ]; rfl) ?_
           | refine Fx.assignT rfl rfl rfl (by simp only [List.set_cons_zero, List.set_cons_succ]; rfl) ?_
           | refine Fx.pure_ rfl rfl (fun _ => by go_simp; first | done | rfl) (by simp only [List.set_cons_zero, List.set_cons_succ]; rfl) ?_)
      | (with_reducible refine Fx.lab1 ?_
         refine Fx.look rfl rfl (fun w' hC => by obtain ⟨hc, hf, hl⟩ := Ext.cells hC; go_simp; rfl) (by simp only [List.set_cons_zero, List.set_cons_succ]; rfl) ?_)
    refine Fx.look rfl rfl (op_load_Ms' (m := y) dl d0 d1 d2 rfl) (by simp only [List.set_cons_zero, List.set_cons_succ]; rfl) ?_
    refine Fx.mkSl 1 1 (fun B w' => MsL w' (.slice (some ⟨B, 0, none⟩) 1 1) [y]) (fun B _ _ h k => h.ext k) rfl rfl (fun w' hC => stepAt_lit1 hC y rfl) (fun B => ?_)
    simp only [List.set_cons_zero, List.set_cons_succ]
    refine Fx.eff (fun v' w' => OwnMs w' v' (L.take k ++ [y]) ∧ Mods (fun c => nv.ownBlock = some c) W w' ∧ (∀ c, v'.ownBlock = some c → nv.ownBlock = some c ∨ W.heap.size ≤ c)) (fun v _ _ h k => ⟨h.1.ext k, h.2.1.then_ k, h.2.2⟩) rfl rfl
      (fun w' hC => stepAt_append hC.1 (HOW.out.ext hC.1) hC.2 (by simpa using HLN.out) rfl rfl) (fun nv' => ?_)
    simp only [List.set_cons_zero, List.set_cons_succ]
    refine Fx.store ⟨B3, 0, none⟩ nv' rfl rfl (fun w' hC => by
      obtain ⟨hc, hf, hl⟩ := hC.2.1.cells
      have e1 := (hc B3 0 hl7 (fun h => HNV7.out _ h rfl)).trans hc7
      have e2 := (hf B3 0 hl7 (fun h => HNV7.out _ h rfl)).trans hf7
      obtain ⟨A, n, vv⟩ : ∃ A n cap, nv' = .slice A n cap := by obtain ⟨A, cap, e, _⟩ := hC.1.val; exact ⟨_, _, _, e⟩
      obtain ⟨cap, rfl⟩ := vv
      clear hc hf hl hC
      go_simp) ?_
    refine Fx.done (fun w6 hC => ?_)
    obtain ⟨w5, ⟨h5, h5', h5''⟩, h6⟩ := hC
    have HF6 := Lib.hid (PdI.push HP.out Hy.out HT.out H7.out HNF.out HI.out.t HI.out.e (Ext.refl W) h5 h5' h5'' hs h6)
    clear h5 h5' h5'' h6 d0 d1 d2 dl hc7 hf7 hl7
    gi_wp2
    obtain ⟨T', q1, q2, q3⟩ := HF6.out
    exact ⟨T', q1, q2, q3⟩
  case hdone =>
    intro T W hI hD hs
    obtain ⟨nv, hT, h7, hown, hnf⟩ := hI.ex
    rw [List.take_length] at hown
    have hc7 := h7.cell 0 (by decide)
    have hl7 := h7.lt
    have HOW := Lib.hid hown
    have HNF := Lib.hid hnf
    have HE := Lib.hid hI.e
    have HD := Lib.hid hD
    clear hI hT h7 hown hnf hD
    gi_wp2
    refine ⟨by simp, .inl ⟨_, _, rfl, run_takeDeferred HD.out, ?_⟩⟩
    have mD : Mods (· = w0.heap.size) W (W.putObj w0.heap.size (.deferred none)) := Mods.putObj _ _ _
    refine ⟨_, results_tmp rfl _ _ _, ?_⟩
    have hws := HP.out.ws
    exact ⟨nv, rfl, HOW.out.mods mD (fun c hc e => by have := HNF.out c hc; omega), ((HE.out.mods (fun x => x = w0.heap.size)).trans mD (fun _ _ h => h)).ext_of (fun x hx h => by omega), fun x hx => by have := HNF.out x hx; omega⟩
  case hstop => exact fun _ _ _ _ h => h.elim
theorem pend_at {w : World} {b mw md : Nat} {σ : PSt} (h : PoolAt w b mw md σ) (hO : σ.Ok) : Calls Try.prog 20 #[.pointer (some ⟨b, 0, none⟩)] w (PendR w (pend σ)) := (callsIn_wide (n := 5)).1 (pend_in h hO)
end Go.Proofs.Ytkkcdoajdhbofaa
