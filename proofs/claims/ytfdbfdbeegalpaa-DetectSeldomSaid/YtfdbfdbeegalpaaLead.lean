/-
  detect.Detector: Leader.
-/
import Derived.Test.YtfdbfdbeegalpaaAll
namespace Go.Proofs.Ytfdbfdbeegalpaa
open Go.RowKit
attribute [local go_sem] Oper.semAt_some

theorem find_range {n k : Nat} {p : Nat → Bool} (hk : k < n) (h : ∀ i, i < k → p i = false) (hp : p k = true) : (List.range n).find? p = some k := by
  rw [List.find?_eq_some_iff_getElem]
  refine ⟨hp, k, by simpa using hk, by simp, fun j hj => ?_⟩
  simp [h j hj]
theorem find_range_none {n : Nat} {p : Nat → Bool} (h : ∀ i, i < n → p i = false) : (List.range n).find? p = none := by
  rw [List.find?_eq_none]
  intro i hi
  simp [h i (List.mem_range.1 hi)]
theorem lead_nil (w : World) : Calls Try.prog 11 #[.pointer none] w fun e w' => e = .returned (.int .i64 (-1)) ∧ Ext w w' := by
  refine (callsIn_wide (n := 5)).1 ?_
  refine callsIn_of_wp_marks Try.func11 rfl trivial ?_
  simp only [Try.ntmps11, List.size_toArray, List.length_cons, List.length_nil, Nat.reduceAdd, Nat.reduceSub, Array.replicate_succ, Array.replicate_zero, List.push_toArray, List.append_toArray, List.nil_append, List.cons_append]
  gi_wp2
  refine wpIn_scope_straight ?_
  gi_wp2
  exact ⟨_, results_tmp rfl _ _ _, rfl, Ext.refl _⟩

structure LeI (w : World) (b mb B3 Bq : Nat) (σ : DSt) (k : Nat) (W : World) : Prop where
  sus : ∀ i, i < k → (!(σ.nd i).s) = false
  c : Obj_ W B3 1 (fun _ => .int .i64 (-1))
  d : DetAt W b mb σ
  q : Obj_ W Bq 1 (fun _ => .pointer (some ⟨b, 0, none⟩))
  e : Ext w W
structure LeX (w : World) (B3 : Nat) (σ : DSt) (c : Code) (W : World) : Prop where
  jump : c = .exit 0
  v : ∃ i : Nat, leadO σ = some i ∧ Obj_ W B3 1 (fun _ => .int .i64 i)
  e : Ext w W
structure LeP (w w0 : World) (b mb B3 Bq : Nat) : Prop where
  b : b < w.heap.size
  m : mb < w.heap.size
  ws : w.heap.size ≤ w0.heap.size
  b30 : w.heap.size ≤ B3
  b3 : B3 < w0.heap.size
  bq : Bq < w0.heap.size
theorem LeI.mods {w w0 W W' : World} {b mb B3 Bq : Nat} {σ : DSt} {k : Nat} (hP : LeP w w0 b mb B3 Bq) (h : LeI w b mb B3 Bq σ k W) (hm : Mods (Bk w0) W W') : LeI w b mb B3 Bq σ k W' := by
  obtain ⟨q1, q2, q3, q4, q5, q6⟩ := hP
  exact ⟨h.sus, h.c.mods hm (by unfold Bk; omega), h.d.mods hm (fun x hx hs => by unfold FD at hx; unfold Bk at hs; omega), h.q.mods hm (by unfold Bk; omega), ((h.e.mods (Bk w0)).trans hm (fun _ _ h => h)).ext_of (fun x hx hs => by unfold Bk at hs; omega)⟩
theorem LeI.ext' {w W W' : World} {b mb B3 Bq : Nat} {σ : DSt} {k : Nat} (h : LeI w b mb B3 Bq σ k W) (hm : Ext W W') : LeI w b mb B3 Bq σ k W' := ⟨h.sus, h.c.ext hm, h.d.ext hm, h.q.ext hm, h.e.trans hm⟩
theorem LeX.mods {w w0 W W' : World} {b mb B3 Bq : Nat} {σ : DSt} {c : Code} (hP : LeP w w0 b mb B3 Bq) (h : LeX w B3 σ c W) (hm : Mods (Bk w0) W W') : LeX w B3 σ c W' := by
  obtain ⟨q1, q2, q3, q4, q5, q6⟩ := hP
  obtain ⟨i, h1, h2⟩ := h.v
  exact ⟨h.jump, ⟨i, h1, h2.mods hm (by unfold Bk; omega)⟩, ((h.e.mods (Bk w0)).trans hm (fun _ _ h => h)).ext_of (fun x hx hs => by unfold Bk at hs; omega)⟩
theorem run_alloc_int (w : World) : (Instr.alloc 3 true (.tuple #[])).run Try.prog w = .ok (.pointer (some ⟨w.heap.size, 0, none⟩)) (w.alloc (.cells #[.int .i64 0] 3)) := by
  simp [go_sem, Try.zeroValue3]
theorem stepAt_alloc_int {a : Act} {d : Option Tmp} {t : TypeId} {s : String} {af : Array Edge} {g : Option (Nat × Bool)} {W w : World} (hC : Ext W w) : stepAt Try.prog ⟨d, .alloc 3, t, s, af, g⟩ a w (fun u w' => ∃ b, u = .pointer (some ⟨b, 0, none⟩) ∧ Ext w w' ∧ (W.heap.size ≤ b ∧ Obj_ w' b 1 (fun _ => .int .i64 0))) := by
  unfold stepAt
  simp only [execOp, Sem.run_bind, run_alloc_int, Result.andThen_ok]
  exact ⟨_, rfl, Ext.alloc _ _, hC.size, Obj_.new w 3 #[.int .i64 0] (fun _ => .int .i64 0) (by intro i hi; simp at hi; subst hi; rfl)⟩
def leL (b B3 Bq : Nat) (v4 v5 v10 v11 : Value) : List Value :=
  [.pointer (some ⟨b, 0, none⟩), undef, .int .i64 0, .pointer (some ⟨B3, 0, none⟩), v4, v5, .pointer (some ⟨b, 0, none⟩), .bool false, .pointer (some ⟨b, 0, none⟩), .func (.func 23) #[] #[.pointer (some ⟨Bq, 0, none⟩)], v10, v11, undef, undef, undef, undef, undef]
def LeA (w w0 : World) (b mb B3 Bq : Nat) (σ : DSt) (k : Nat) (a' : Act) (W : World) : Prop :=
  LeI w b mb B3 Bq σ k W ∧ ∃ B7, w0.heap.size + 2 ≤ B7 ∧ Obj_ W B7 3 (ndF (σ.nd k)) ∧ a' = Act.mk (leL b B3 Bq (.int .i64 k) (.pointer (some ⟨B7, 0, none⟩)) (.int .i64 k) (σ.nd k).val).toArray []

set_option maxRecDepth 100000 in
set_option maxHeartbeats 3200000 in
theorem lead_in {w : World} {b mb : Nat} {σ : DSt} (hM : DetAt w b mb σ) (hn16 : σ.n ≤ 16) :
    CallsIn Fence.wide 5 Try.prog 11 #[.pointer (some ⟨b, 0, none⟩)] w (fun e w' => e = .returned (.int .i64 (leadV σ)) ∧ Ext w w') := by
  have hF := wideF_wide
  have HM := Lib.hid hM
  have hb0 := hM.lt (x := b) (.inl rfl)
  have hm0 := hM.lt (x := mb) (.inr rfl)
  clear hM
  refine callsIn_of_wp_marks Try.func11 rfl trivial ?_
  simp only [Try.ntmps11, List.size_toArray, List.length_cons, List.length_nil, Nat.reduceAdd, Nat.reduceSub, Array.replicate_succ, Array.replicate_zero, List.push_toArray, List.append_toArray, List.nil_append, List.cons_append]
  gi_wp2
  refine wpIn_scope_straight ?_
  gi_upto_region 3 with fail
  refine wpIn_region_line hF [(0,2),(1,3)] (by kernel_rfl) (by kernel_rfl) (Ext w) (fun _ _ h k => h.trans k) (Ext.refl _) ?_
  refine Fx.mkPtr (fun B w2 => w.heap.size ≤ B ∧ Obj_ w2 B 1 (fun _ => .int .i64 0)) (fun B _ _ h k => ⟨h.1, h.2.ext k⟩) rfl rfl (fun w2 hC => stepAt_alloc_int hC) (fun B3 => ?_)
  simp only [List.set_cons_zero, List.set_cons_succ]
  refine Fx.store ⟨B3, 0, none⟩ (.int .i64 (-1)) rfl rfl (fun w' hC => by
    have e1 := hC.2.2.cell 0 (by decide)
    have e2 := hC.2.2.free 0
    clear hC
    go_simp) ?_
  refine Fx.done (fun w2 hC => ?_)
  obtain ⟨wa, ⟨x1, hB3, x3⟩, x2⟩ := hC
  have e2 : Ext w w2 := (x1.setNew (p := ⟨B3, 0, none⟩) hB3 (.int .i64 (-1))).trans x2
  have o3 : Obj_ w2 B3 1 (fun _ => .int .i64 (-1)) := ((x3.set (i := 0) (by decide) (.int .i64 (-1))).ext x2).congr (fun i hi => by unfold upd; rw [if_pos (by omega)])
  have oq := box_ptr w2 b 24
  have eq := Ext.alloc w2 (.cells #[.pointer (some ⟨b, 0, none⟩)] 24)
  have hsz : (w2.alloc (.cells #[.pointer (some ⟨b, 0, none⟩)] 24)).heap.size = w2.heap.size + 1 := by simp
  have I0 : LeI w b mb B3 w2.heap.size σ 0 (w2.alloc (.cells #[.pointer (some ⟨b, 0, none⟩)] 24)) := ⟨fun i h => by omega, o3.ext eq, HM.out.ext (e2.trans eq), oq, e2.trans eq⟩
  have hP : LeP w (w2.alloc (.cells #[.pointer (some ⟨b, 0, none⟩)] 24)) b mb B3 w2.heap.size := by
    have h12 := e2.size
    have h3 := o3.lt
    exact ⟨hb0, hm0, by omega, hB3, by omega, by omega⟩
  have HI0 := Lib.hid I0
  have HP := Lib.hid hP
  clear I0 hP oq eq e2 hB3 o3 hsz x1 x2 x3
  gi_wp2
  refine wpIn_label ?_
  gi_wp2_with (refine ⟨trivial, ?_⟩; gi_at_call 20; refine (hF.calls (each_at _ _)).mono ?_; rintro e w3 ⟨rfl, hw3⟩)
  subst hw3
  generalize w2.alloc (.cells #[.pointer (some ⟨b, 0, none⟩)] 24) = w0 at *
  obtain ⟨Bq, hBq⟩ : ∃ Bq, w2.heap.size = Bq := ⟨_, rfl⟩
  rw [hBq] at HI0 HP ⊢
  clear hBq
  refine rangeFunc_law hF rfl (gf := 23) (lb := #[.pointer (some ⟨Bq, 0, none⟩)]) ?hg (fun args w => callFunc_at _ (by kernel_rfl) args w)
    σ.n (fun k => #[.int .i64 k, (σ.nd k).val]) (fun _ _ => rfl) (LeI w b mb B3 Bq σ) (fun c _ W => LeX w B3 σ c W) ?hI ?hIx ?h0 ?hseq (LeA w w0 b mb B3 Bq σ) ?hA ?hassign ?hbody ?hdone ?hstop
  case hg => rfl
  case hI => exact fun k W W' h hm => h.mods HP.out hm
  case hIx => exact fun _ _ _ _ h hm => h.mods HP.out hm
  case h0 => exact HI0.out
  case hseq => exact fun W hm => each_iter hF rfl _ _ b mb Bq σ hn16 (fun k W h => ⟨h.q.cell 0 (by decide), h.d⟩) W
  case hA =>
    rintro k a' W W' ⟨h1, B7, h2, h3, h5⟩ hm
    exact ⟨h1.mods HP.out hm, B7, h2, h3.mods hm (by unfold Bk; omega), h5⟩
  case hassign =>
    intro l k W hk hi hs
    simp only [List.zip_toArray, List.zip_cons_cons, List.zip_nil_left, List.zip_nil_right, List.foldl_toArray, List.foldl_toArray', List.foldl_cons, List.foldl_nil, List.setIfInBounds_toArray, List.set_cons_succ, List.set_cons_zero]
    show Code.wpIn (Fence.wide.inRound l) _ _ _ _ (Act.mk (leL b B3 Bq undef undef (.int .i64 k) (σ.nd k).val).toArray []) W
    unfold leL
    obtain ⟨x, hx⟩ : ∃ x, σ.nd k = x := ⟨_, rfl⟩
    rw [hx]
    have Hx := Lib.hid hx
    clear hx
    gi_upto_region 6 with fail
    refine wpIn_region_line (hF.inRound l) [(0,2),(1,3)] (by kernel_rfl) (by kernel_rfl) (Ext W) (fun _ _ h k => h.trans k) (Ext.refl _) ?_
    refine Fx.mkPtr (fun B w' => W.heap.size ≤ B ∧ Obj_ w' B 3 (ndF nd0)) (fun B _ _ h k => ⟨h.1, h.2.ext k⟩) rfl rfl (fun w' hC => stepAt_alloc_Nd hC) (fun B => ?_)
    simp only [List.set_cons_zero, List.set_cons_succ]
    refine Fx.eff0 (NdPre W B x) (ndPre_stable _ _ _) rfl rfl (fun w' hC => stepAt_mono (stepAt_store_Nd hC.1 hC.2.1 hC.2.2 x rfl rfl) (fun _ w'' h => ⟨h.1, hC.2.1, h.2⟩)) ?_
    refine Fx.done (fun w3 hC => ?_)
    obtain ⟨hC1, hB, hOb⟩ := hC
    exact ⟨hC1, hi.ext' hC1, B, Nat.le_trans hs hB, by rw [Hx.out]; exact hOb, by rw [Hx.out]; rfl⟩
  case hbody =>
    rintro l k a' W hk ⟨hi, B7, hB7, hO7, rfl⟩ hs
    have hFq := hF.inRound l
    obtain ⟨⟨xh, xt, xs⟩, hx⟩ : ∃ x, σ.nd k = x := ⟨_, rfl⟩
    rw [hx] at hO7 ⊢
    obtain ⟨d0, d1, d2⟩ := hO7.nd
    have dl := hO7.lt
    have c3 := hi.c.cell 0 (by decide)
    have f3 := hi.c.free 0
    have l3 := hi.c.lt
    have HI := Lib.hid hi
    have Hx := Lib.hid hx
    clear hi hx hO7
    unfold leL
    cases xs with
    | true =>
      gi_wp2
      have hI4 := HI.out
      exact ⟨KeepsBk.of_mods (Mods.refl (fun _ => False) W) hs (fun h => h) (fun h => h), ⟨fun i hi => by
        by_cases e : i = k
        · subst e; rw [Hx.out]; rfl
        · exact hI4.sus i (by omega), hI4.c, hI4.d, hI4.q, hI4.e⟩⟩
    | false =>
      gi_wp2
      have hI4 := HI.out
      obtain ⟨q1, q2, q3, q4, q5, q6⟩ := HP.out
      have m := Mods.setCell W B3 0 (.int .i64 (k : Int))
      refine ⟨KeepsBk.of_mods m hs (by omega) (by omega), rfl, ⟨k, ?_, ?_⟩, ?_⟩
      · exact find_range hk hI4.sus (by rw [Hx.out]; rfl)
      · exact (hI4.c.set (i := 0) (by decide) (.int .i64 (k : Int))).congr (fun i hi => by unfold upd; rw [if_pos (by omega)])
      · exact ((hI4.e.mods _).trans m (fun _ _ h => h)).ext_of (fun x hx h => by omega)
  case hdone =>
    intro W hI hD hs
    have c3 := hI.c.cell 0 (by decide)
    have l3 := hI.c.lt
    have HI := Lib.hid hI
    have HD := Lib.hid hD
    have hws := HP.out.ws
    clear hI hD
    gi_wp2
    refine ⟨by simp, .inl ⟨_, _, rfl, run_takeDeferred HD.out, ?_⟩⟩
    have mD : Mods (· = w0.heap.size) W (W.putObj w0.heap.size (.deferred none)) := Mods.putObj _ _ _
    refine ⟨_, results_tmp rfl _ _ _, ?_⟩
    have e : leadV σ = -1 := by unfold leadV leadO; rw [find_range_none HI.out.sus]
    exact ⟨by rw [e]; rfl, ((HI.out.e.mods _).trans mD (fun _ _ h => h)).ext_of (fun x hx e => by omega)⟩
  case hstop =>
    rintro c k W hk ⟨rfl, ⟨i, hl, hc⟩, hE⟩ hD hs
    have c3 := hc.cell 0 (by decide)
    have l3 := hc.lt
    have HL := Lib.hid hl
    have HE := Lib.hid hE
    have HD := Lib.hid hD
    have hws := HP.out.ws
    clear hl hc hE hD
    gi_wp2
    refine ⟨by simp, .inl ⟨_, _, rfl, run_takeDeferred HD.out, ?_⟩⟩
    have mD : Mods (· = w0.heap.size) W (W.putObj w0.heap.size (.deferred none)) := Mods.putObj _ _ _
    refine ⟨_, results_tmp rfl _ _ _, ?_⟩
    have e : leadV σ = i := by unfold leadV; rw [HL.out]
    exact ⟨by rw [e]; rfl, ((HE.out.mods _).trans mD (fun _ _ h => h)).ext_of (fun x hx e => by omega)⟩
theorem lead_at {w : World} {b mb : Nat} {σ : DSt} (hM : DetAt w b mb σ) (hO : σ.Ok) :
    Calls Try.prog 11 #[.pointer (some ⟨b, 0, none⟩)] w (fun e w' => e = .returned (.int .i64 (leadV σ)) ∧ Ext w w') := (callsIn_wide (n := 5)).1 (lead_in hM hO.n16)
end Go.Proofs.Ytfdbfdbeegalpaa
