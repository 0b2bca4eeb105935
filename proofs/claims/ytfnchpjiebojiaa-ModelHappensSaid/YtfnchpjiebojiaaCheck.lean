/-
  model.Check.
-/
import Derived.Test.YtfnchpjiebojiaaHap3
namespace Go.Proofs.Ytfnchpjiebojiaa
open Go.RowKit
attribute [local go_sem] Oper.semAt_some

/-! ### plain -/
def okN (σ : MSt) : List Hp → Nat
  | [] => 0
  | h :: t => if hapB σ h then okN (hapT σ h) t + 1 else 0
def stN (σ : MSt) (l : List Hp) (k : Nat) : MSt := (l.take k).foldl hapT σ
theorem okN_le (σ : MSt) (l : List Hp) : okN σ l ≤ l.length := by
  induction l generalizing σ with
  | nil => simp [okN]
  | cons h t ih => unfold okN; split <;> simp [ih]
theorem stN_zero (σ : MSt) (l : List Hp) : stN σ l 0 = σ := by simp [stN]
theorem stN_succ (σ : MSt) (l : List Hp) {k : Nat} (hk : k < l.length) : stN σ l (k + 1) = hapT (stN σ l k) l[k] := by
  unfold stN; rw [List.take_succ_eq_append_getElem hk, List.foldl_append]; rfl
theorem okN_go (σ : MSt) (l : List Hp) : ∀ (k : Nat) (hk : k < l.length), k ≤ okN σ l → hapB (stN σ l k) l[k] = true → k + 1 ≤ okN σ l := by
  induction l generalizing σ with
  | nil => intro k hk; simp at hk
  | cons h t ih =>
    intro k hk h1 h2
    unfold okN at h1 ⊢
    cases k with
    | zero => rw [stN_zero] at h2; simp only [List.getElem_cons_zero] at h2; rw [h2]; simp
    | succ k =>
      split at h1
      · rename_i hb
        rw [if_pos hb]
        have := ih (hapT σ h) k (by simpa using hk) (by omega) (by simpa [stN] using h2)
        omega
      · omega
theorem okN_stop (σ : MSt) (l : List Hp) : ∀ (k : Nat) (hk : k < l.length), k ≤ okN σ l → hapB (stN σ l k) l[k] = false → okN σ l = k := by
  induction l generalizing σ with
  | nil => intro k hk; simp at hk
  | cons h t ih =>
    intro k hk h1 h2
    unfold okN at h1 ⊢
    cases k with
    | zero => rw [stN_zero] at h2; simp only [List.getElem_cons_zero] at h2; rw [h2]; simp
    | succ k =>
      split at h1
      · rename_i hb
        rw [if_pos hb]
        have := ih (hapT σ h) k (by simpa using hk) (by omega) (by simpa [stN] using h2)
        omega
      · omega
theorem stN_ok {σ : MSt} (hO : σ.Ok) (l : List Hp) (k : Nat) : (stN σ l k).Ok ∧ (stN σ l k).log.length ≤ σ.log.length + k ∧ (stN σ l k).n = σ.n := by
  induction k with
  | zero => rw [stN_zero]; exact ⟨hO, by omega, rfl⟩
  | succ k ih =>
    by_cases hk : k < l.length
    · rw [stN_succ _ _ hk]
      exact ⟨hap_ok ih.1, Nat.le_trans hap_log (by omega), hap_n.trans ih.2.2⟩
    · have : stN σ l (k + 1) = stN σ l k := by unfold stN; rw [List.take_of_length_le (by omega), List.take_of_length_le (by omega)]
      rw [this]
      exact ⟨ih.1, by omega, ih.2.2⟩

/-! ### the functions that make the iterator -/
theorem values_at (w : World) (A : Option Addr) (n cap : Nat) : Calls Try.prog 31 #[.slice A n cap] w fun e w' =>
    e = .returned (.func (.func 34) #[] #[.pointer (some ⟨w.heap.size, 0, none⟩)]) ∧ w' = w.alloc (.cells #[.slice A n cap] 22) := by
  go_enter Try.func31, Try.ntmps31
  go_wp2
  go_ret
  exact ⟨rfl, rfl⟩
theorem each_at (w : World) (A : Option Addr) (n cap : Nat) : Calls Try.prog 21 #[.slice A n cap] w fun e w' =>
    e = .returned (.func (.func 34) #[] #[.pointer (some ⟨w.heap.size, 0, none⟩)]) ∧ w' = w.alloc (.cells #[.slice A n cap] 22) := by
  go_enter Try.func21, Try.ntmps21
  go_wp2_with (go_at_call 31; refine (values_at _ _ _ _).mono ?_; rintro e w' ⟨rfl, rfl⟩)
  go_ret
  exact ⟨rfl, rfl⟩

def CheckR (n : Nat) (l : List Hp) (w : World) (e : Ending) (w' : World) : Prop :=
  e = .returned (.tuple #[.int .i64 (okN (st0 n) l), .int .i64 (if okN (st0 n) l = l.length then 0 else 160)]) ∧ Ext w w'

/-- Between two rounds. -/
structure ChkI (w w0 : World) (b sb mb B6 B7 B8 n : Nat) (l : List Hp) (k : Nat) (W : World) : Prop where
  ok : k ≤ okN (st0 n) l
  le : k ≤ l.length
  m : ∃ lv, ModelAt W b sb mb lv (stN (st0 n) l k) ∧ ∀ y, lv.ownBlock = some y → w0.heap.size + 2 ≤ y
  c6 : Obj_ W B6 1 (fun _ => .pointer (some ⟨b, 0, none⟩))
  c7 : Obj_ W B7 1 (fun _ => .int .i64 0)
  c8 : Obj_ W B8 1 (fun _ => .int .i64 k)
  ext : Ext w W
structure ChkX (w : World) (B7 B8 n : Nat) (l : List Hp) (c : Code) (k : Nat) (W : World) : Prop where
  jump : c = .exit 0
  ok : okN (st0 n) l + 1 = k
  lt : k ≤ l.length
  c7 : Obj_ W B7 1 (fun _ => .int .i64 160)
  c8 : Obj_ W B8 1 (fun _ => .int .i64 (okN (st0 n) l))
  ext : Ext w W

theorem FM_none {b sb mb x : Nat} {lv : Value} (h : FM b sb mb lv x) : FM b sb mb (.slice none 0 0) x ∨ lv.ownBlock = some x := by
  rcases h with h | h | h | h
  · exact .inl (.inl h)
  · exact .inl (.inr (.inl h))
  · exact .inl (.inr (.inr (.inl h)))
  · exact .inr h
theorem FM_any {b sb mb x : Nat} {lv : Value} (h : FM b sb mb (.slice none 0 0) x) : FM b sb mb lv x := by
  rcases h with h | h | h | h
  · exact .inl h
  · exact .inr (.inl h)
  · exact .inr (.inr (.inl h))
  · simp [Value.ownBlock] at h
theorem ChkI.mods {w w0 W W' : World} {b sb mb B6 B7 B8 n k : Nat} {l : List Hp} (h : ChkI w w0 b sb mb B6 B7 B8 n l k W) (hm : Mods (Bk w0) W W') (h6 : B6 < w0.heap.size) (h7 : B7 < w0.heap.size) (h8 : B8 < w0.heap.size)
    (hf : ∀ x, FM b sb mb (.slice none 0 0) x → x < w0.heap.size) (hw : w.heap.size ≤ w0.heap.size) : ChkI w w0 b sb mb B6 B7 B8 n l k W' := by
  obtain ⟨lv, hM, hlv⟩ := h.m
  refine ⟨h.ok, h.le, ⟨lv, hM.mods hm (fun x hx hs => ?_), hlv⟩, h.c6.mods hm (by unfold Bk; omega), h.c7.mods hm (by unfold Bk; omega), h.c8.mods hm (by unfold Bk; omega), ?_⟩
  · rcases FM_none hx with hx | hx
    · have := hf x hx; unfold Bk at hs; omega
    · have := hlv x hx; unfold Bk at hs; omega
  · exact ((h.ext.mods (Bk w0)).trans hm (fun _ _ h => h)).ext_of (fun x hx hs => by unfold Bk at hs; omega)
theorem ChkI.ext' {w w0 W W' : World} {b sb mb B6 B7 B8 n k : Nat} {l : List Hp} (h : ChkI w w0 b sb mb B6 B7 B8 n l k W) (hm : Ext W W') : ChkI w w0 b sb mb B6 B7 B8 n l k W' := by
  obtain ⟨lv, hM, hlv⟩ := h.m
  exact ⟨h.ok, h.le, ⟨lv, hM.ext hm, hlv⟩, h.c6.ext hm, h.c7.ext hm, h.c8.ext hm, h.ext.trans hm⟩
theorem ChkX.mods {w w0 W W' : World} {B7 B8 n k : Nat} {l : List Hp} {c : Code} (h : ChkX w B7 B8 n l c k W) (hm : Mods (Bk w0) W W') (h7 : B7 < w0.heap.size) (h8 : B8 < w0.heap.size) (hw : w.heap.size ≤ w0.heap.size) : ChkX w B7 B8 n l c k W' :=
  ⟨h.jump, h.ok, h.lt, h.c7.mods hm (by unfold Bk; omega), h.c8.mods hm (by unfold Bk; omega), ((h.ext.mods (Bk w0)).trans hm (fun _ _ h => h)).ext_of (fun x hx hs => by unfold Bk at hs; omega)⟩

set_option maxRecDepth 100000 in
set_option maxHeartbeats 1600000 in
theorem check_in (w : World) (n : Nat) (h1 : 1 ≤ n) (h16 : n ≤ 16) (v : Value) (l : List Hp) (hl : HpL w v l) (hlen : l.length ≤ 1000000) :
    CallsIn Fence.wide 5 Try.prog 11 #[.int .i64 n, v] w (CheckR n l w) := by
  have hF := wideF_wide
  obtain ⟨A, cap, rfl, hcap, hmax⟩ := hl.val
  have HL := Lib.hid hl
  clear hl hcap hmax
  refine callsIn_of_wp_marks Try.func11 rfl trivial ?_
  simp only [Try.ntmps11, List.size_toArray, List.length_cons, List.length_nil, Nat.reduceAdd, Nat.reduceSub, Array.replicate_succ, Array.replicate_zero, List.push_toArray, List.append_toArray, List.nil_append, List.cons_append]
  gi_wp2
  refine wpIn_scope_straight ?_
  gi_wp2_with (first
    | (refine ⟨trivial, ?_⟩; gi_at_call 13; refine (hF.calls (new_yes _ n h1 h16)).mono ?_; rintro e w1 ⟨b, sb, mb, rfl, hM, hE, hb, hsb, hmb⟩; have HM := Lib.hid hM; have HE := Lib.hid hE; clear hM hE)
    | (refine ⟨trivial, ?_⟩; gi_at_call 21; refine (hF.calls (each_at _ _ _ _)).mono ?_; rintro e w1 ⟨rfl, rfl⟩))
  refine wpIn_label ?_
  gi_wp2_with (first
    | (refine ⟨trivial, ?_⟩; gi_at_call 21; refine (hF.calls (each_at _ _ _ _)).mono ?_; rintro e w2 ⟨rfl, rfl⟩))
  have hE6 := Ext.alloc w1 (.cells #[.pointer (some ⟨b, 0, none⟩)] 41)
  have o6 := Obj_.new w1 41 #[.pointer (some ⟨b, 0, none⟩)] (fun _ => .pointer (some ⟨b, 0, none⟩)) (by intro i hi; simp at hi; subst hi; rfl)
  have s6 : (w1.alloc (.cells #[.pointer (some ⟨b, 0, none⟩)] 41)).heap.size = w1.heap.size + 1 := by simp
  generalize w1.alloc (.cells #[.pointer (some ⟨b, 0, none⟩)] 41) = w6 at *
  have hE7 := Ext.alloc w6 (.cells #[.int .i64 0] 25)
  have o7 := Obj_.new w6 25 #[.int .i64 0] (fun _ => .int .i64 0) (by intro i hi; simp at hi; subst hi; rfl)
  have s7 : (w6.alloc (.cells #[.int .i64 0] 25)).heap.size = w1.heap.size + 1 + 1 := by simp [s6]
  generalize w6.alloc (.cells #[.int .i64 0] 25) = w7 at *
  have hE8 := Ext.alloc w7 (.cells #[.int .i64 0] 3)
  have o8 := Obj_.new w7 3 #[.int .i64 0] (fun _ => .int .i64 ((0 : Nat) : Int)) (by intro i hi; simp at hi; subst hi; rfl)
  have s8 : (w7.alloc (.cells #[.int .i64 0] 3)).heap.size = w1.heap.size + 1 + 1 + 1 := by simp [s7]
  generalize w7.alloc (.cells #[.int .i64 0] 3) = w8 at *
  have hE9 := Ext.alloc w8 (.cells #[.slice A l.length cap] 22)
  have o9 := Obj_.new w8 22 #[.slice A l.length cap] (fun _ => .slice A l.length cap) (by intro i hi; simp at hi; subst hi; rfl)
  have s9 : (w8.alloc (.cells #[.slice A l.length cap] 22)).heap.size = w1.heap.size + 1 + 1 + 1 + 1 := by simp [s8]
  generalize w8.alloc (.cells #[.slice A l.length cap] 22) = w0 at *
  rw [s6] at o7
  rw [s7] at o8
  rw [s8] at o9
  have hlt0 : ∀ x, FM b sb mb (.slice none 0 0) x → x < w0.heap.size := fun x hx => by have := HM.out.lt hx; omega
  have hE := HE.out.trans (((hE6.trans hE7).trans hE8).trans hE9)
  refine rangeFunc_law hF rfl (gf := 34) (lb := #[.pointer (some ⟨w1.heap.size + 1 + 1 + 1, 0, none⟩)]) ?hg (fun args w => callFunc_at _ (by kernel_rfl) args w)
    l.length (fun k => #[(l.getD k hp0).val]) (fun _ _ => rfl) (ChkI w w0 b sb mb w1.heap.size (w1.heap.size + 1) (w1.heap.size + 1 + 1) n l) (ChkX w (w1.heap.size + 1) (w1.heap.size + 1 + 1) n l) ?hI ?hIx ?h0 ?hseq
    (fun k a' W => ChkI w w0 b sb mb w1.heap.size (w1.heap.size + 1) (w1.heap.size + 1 + 1) n l k W ∧ ∃ B9, w0.heap.size + 2 ≤ B9 ∧ Obj_ W B9 5 (hpF (l.getD k hp0)) ∧ a' = Act.mk (#[.int .i64 n, .slice A l.length cap, undef, undef, .int .i64 0, .int .i64 0, .pointer (some ⟨w1.heap.size, 0, none⟩), .pointer (some ⟨w1.heap.size + 1, 0, none⟩), .pointer (some ⟨w1.heap.size + 1 + 1, 0, none⟩), .pointer (some ⟨B9, 0, none⟩),
      .tuple #[.pointer (some ⟨b, 0, none⟩), .int .i64 0], .int .i64 n, .tuple #[.pointer (some ⟨b, 0, none⟩), .int .i64 0], .pointer (some ⟨b, 0, none⟩), .int .i64 0, .int .i64 0, .bool false, undef, .slice A l.length cap,
      .func (.func 34) #[] #[.pointer (some ⟨w1.heap.size + 1 + 1 + 1, 0, none⟩)], (l.getD k hp0).val, undef, undef, undef, undef, undef, undef, undef, undef, undef]) []) ?hA ?assign ?body ?done ?stop
  case hg => rfl
  case hI => exact fun k W W' h hm => h.mods hm (by omega) (by omega) (by omega) hlt0 hE.size
  case hIx => exact fun c k W W' h hm => h.mods hm (by omega) (by omega) hE.size
  case h0 => exact ⟨by omega, by omega, ⟨_, by rw [stN_zero]; exact HM.out.ext (((hE6.trans hE7).trans hE8).trans hE9), fun y hy => by simp [Value.ownBlock] at hy⟩, o6.ext ((hE7.trans hE8).trans hE9), o7.ext (hE8.trans hE9), o8.ext hE9, hE⟩
  case hseq => exact fun W hm => values_iter hF rfl _ _ (.slice A l.length cap) l (w1.heap.size + 1 + 1 + 1) (fun k W h => HL.out.ext h.ext) W ((o9.mods hm (by unfold Bk; omega)).cell 0 (by simp))
  case hA => exact fun k a' W W' h hm => ⟨h.1.mods hm (by omega) (by omega) (by omega) hlt0 hE.size, let ⟨B9, h1, h2, h3⟩ := h.2; ⟨B9, h1, h2.mods hm (by unfold Bk; omega), h3⟩⟩
  case assign =>
    intro q k W hk hi hs
    simp only [List.zip_toArray, List.zip_cons_cons, List.zip_nil_left, List.zip_nil_right, List.foldl_toArray, List.foldl_toArray', List.foldl_cons, List.foldl_nil, List.setIfInBounds_toArray, List.set_cons_succ, List.set_cons_zero]
    show Code.wpIn (Fence.wide.inRound q) _ _ _ _ (Act.mk (#[.int .i64 n, .slice A l.length cap, undef, undef, .int .i64 0, .int .i64 0, .pointer (some ⟨w1.heap.size, 0, none⟩), .pointer (some ⟨w1.heap.size + 1, 0, none⟩), .pointer (some ⟨w1.heap.size + 1 + 1, 0, none⟩), undef,
      .tuple #[.pointer (some ⟨b, 0, none⟩), .int .i64 0], .int .i64 n, .tuple #[.pointer (some ⟨b, 0, none⟩), .int .i64 0], .pointer (some ⟨b, 0, none⟩), .int .i64 0, .int .i64 0, .bool false, undef, .slice A l.length cap,
      .func (.func 34) #[] #[.pointer (some ⟨w1.heap.size + 1 + 1 + 1, 0, none⟩)], (l.getD k hp0).val, undef, undef, undef, undef, undef, undef, undef, undef, undef]) []) W
    refine wpIn_region_line (hF.inRound q) [(0,2),(1,3)] (by kernel_rfl) (by kernel_rfl) (Ext W) (fun _ _ h k => h.trans k) (Ext.refl _) ?_
    refine Fx.mkPtr (fun B w' => W.heap.size ≤ B ∧ Obj_ w' B 5 (hpF hp0)) (fun B _ _ h k => ⟨h.1, h.2.ext k⟩) rfl rfl (fun w' hC => stepAt_alloc_Hp hC) (fun B => ?_)
    simp only [List.set_cons_zero, List.set_cons_succ]
    refine Fx.eff0 (HpPre W B (l.getD k hp0)) (hpPre_stable _ _ _) rfl rfl (fun w' hC => stepAt_mono (stepAt_store_Hp hC.1 hC.2.1 hC.2.2 (l.getD k hp0) rfl rfl) (fun _ w'' h => ⟨h.1, hC.2.1, h.2⟩)) ?_
    refine Fx.done (fun w2 hC => ?_)
    obtain ⟨hC1, hB, hOb⟩ := hC
    exact ⟨hC1, hi.ext' hC1, B, Nat.le_trans hs hB, hOb, rfl⟩
  case body =>
    rintro q k a' W hk ⟨hi, B9, hB9, hO9, rfl⟩ hs
    have hFq := hF.inRound q
    have hgd : l.getD k hp0 = l[k] := by rw [List.getD_eq_getElem?_getD, List.getElem?_eq_getElem hk]; rfl
    have hgo := okN_go (st0 n) l k hk hi.ok
    have hstop := okN_stop (st0 n) l k hk hi.ok
    have hst := stN_succ (st0 n) l hk
    have hsig := stN_ok (st0_ok h1 h16) l k
    obtain ⟨lv, hM, hlv⟩ := hi.m
    rw [hgd] at hO9 ⊢
    generalize l[k] = h at *
    generalize stN (st0 n) l k = σ at *
    have c6 := hi.c6.cell 0 (by decide)
    have c7 := hi.c7.cell 0 (by decide)
    have c8 := hi.c8.cell 0 (by decide)
    have f7 := hi.c7.free 0
    have f8 := hi.c8.free 0
    have l6 := hi.c6.lt
    have l7 := hi.c7.lt
    have l8 := hi.c8.lt
    have hb9 : ∀ i u, h.enc[i]? = some u → W.cell? ⟨B9, i, none⟩ = some u := fun i u hu => by
      have h5 : i < 5 := by have := (List.getElem?_eq_some_iff.1 hu).1; simpa [Hp.enc] using this
      rw [hO9.cell i h5]; simp [hpF, hu]
    have d0 := hb9 0 _ rfl
    have d1 := hb9 1 _ rfl
    have d2 := hb9 2 _ rfl
    have d3 := hb9 3 _ rfl
    have d4 := hb9 4 _ rfl
    have l9 := hO9.lt
    have hnF : ∀ x, w1.heap.size ≤ x → x < w0.heap.size + 2 → ¬ FM b sb mb lv x := fun x hx1 hx2 hF => by
      rcases FM_none hF with hF | hF
      · have := HM.out.lt hF; omega
      · have := hlv x hF; omega
    have n6 := hnF w1.heap.size (by omega) (by omega)
    have n7 := hnF (w1.heap.size + 1) (by omega) (by omega)
    have n8 := hnF (w1.heap.size + 1 + 1) (by omega) (by omega)
    have nD := hnF w0.heap.size (by omega) (by omega)
    have nL := hnF (w0.heap.size + 1) (by omega) (by omega)
    have HM1 := Lib.hid hM
    have Hlv := Lib.hid hlv
    have Hgo := Lib.hid hgo
    have Hstop := Lib.hid hstop
    have Hst := Lib.hid hst
    have Hsig := Lib.hid hsig
    have Hi := Lib.hid hi
    have Hcr : ∃ r, hapB σ h = r := ⟨_, rfl⟩
    obtain ⟨r, hr⟩ := Hcr
    have Hr := Lib.hid hr
    have Hcc : ∃ c : Int, (if r = true then 0 else 160) = c := ⟨_, rfl⟩
    obtain ⟨c, hc⟩ := Hcc
    have Hc := Lib.hid hc
    have HhE := Lib.hid hE
    have Hhlt0 := Lib.hid hlt0
    clear hM hlv hgo hstop hst hsig hi hb9 hO9 hnF hr hc hgd hE hlt0 hE6 hE7 hE8 hE9 o6 o7 o8 o9
    have N7 := Lib.hid n7
    have N6 := Lib.hid n6
    have N8 := Lib.hid n8
    have ND := Lib.hid nD
    have NL := Lib.hid nL
    clear n6 n7 n8 nD nL
    gi_upto_region 7 with fail
    refine wpIn_region_line hFq [(0,1),(1,1),(2,3),(3,3)] (by kernel_rfl) (by kernel_rfl) (Ext W) (fun _ _ h k => h.trans k) (Ext.refl _) ?_
    first
      | refine Fx.skip rfl rfl (by simp only [List.set_cons_zero, List.set_cons_succ]; rfl) ?_
      | (with_reducible refine Fx.lab0 ?_
         first
           | refine Fx.moveT rfl rfl rfl (by simp only [List.set_cons_zero, List.set_cons_succ]; rfl) ?_
           | refine Fx.assignT rfl rfl rfl (by simp only [List.set_cons_zero, List.set_cons_succ]; rfl) ?_
           | refine Fx.pure_ rfl rfl (fun _ => by go_simp; first | done | rfl) (by simp only [List.set_cons_zero, List.set_cons_succ]; rfl) ?_)
      | (with_reducible refine Fx.lab1 ?_
         refine Fx.look rfl rfl (fun w' hC => by obtain ⟨hc, hf, hl⟩ := Ext.cells hC; go_simp; rfl) (by simp only [List.set_cons_zero, List.set_cons_succ]; rfl) ?_)
    refine Fx.look rfl rfl (op_load_Hp' (h := h) l9 d0 d1 d2 d3 d4 rfl) (by simp only [List.set_cons_zero, List.set_cons_succ]; rfl) ?_
    refine Fx.callV (.int .i64 c) (fun w' => ∃ lv', ModelAt w' b sb mb lv' (hapT σ h) ∧ Mods (FM b sb mb lv) W w' ∧ ∀ y, lv'.ownBlock = some y → lv.ownBlock = some y ∨ W.heap.size ≤ y) (fun _ _ h k => let ⟨lv', h1, h2, h3⟩ := h; ⟨lv', h1.ext k, h2.then_ k, h3⟩)
      (args := #[.pointer (some ⟨b, 0, none⟩), h.val]) rfl rfl (fun _ => by first | (go_simp; done) | (go_simp; rfl)) (fun w' hC => (happen_at b sb mb lv σ h w' (HM1.out.ext hC) Hsig.out.1 (by have := Hsig.out.2.1; simp [st0] at this; omega)).mono (fun e w'' hh => ?_)) (by simp only [List.set_cons_zero, List.set_cons_succ]; rfl) ?_
    · obtain ⟨h1, lv', h2, h3, h4⟩ := hh
      rw [Hr.out, Hc.out] at h1
      exact ⟨h1, lv', h2, h3.after hC, fun y hy => (h4 y hy).imp id (fun h => Nat.le_trans hC.size h)⟩
    refine Fx.store ⟨w1.heap.size + 1, 0, none⟩ (.int .i64 c) rfl rfl (fun w' hC => by
      obtain ⟨lv', h1, h2, h3⟩ := hC
      obtain ⟨hc, hf, hl⟩ := h2.cells
      have e1 := (hc _ 0 l7 N7.out).trans c7
      have e2 := (hf _ 0 l7 N7.out).trans f7
      clear hc hf hl h1 h2 h3
      go_simp) ?_
    refine Fx.done (fun w3 hC => ?_)
    obtain ⟨w', ⟨lv', g1, g2, g3⟩, g4⟩ := hC
    have m7 : Mods (· = w1.heap.size + 1) w' w3 := (Mods.setCell w' _ _ _).then_ g4
    have o7' := (((Hi.out.c7.mods g2 N7.out).set (i := 0) (by decide) (.int .i64 c)).ext g4).congr (g := fun _ => .int .i64 c) (fun i hi => by unfold upd; rw [if_pos (by omega)])
    have o6' := (Hi.out.c6.mods g2 N6.out).mods m7 (by omega)
    have o8' := (Hi.out.c8.mods g2 N8.out).mods m7 (by omega)
    have M3 : ModelAt w3 b sb mb lv' (hapT σ h) := g1.mods m7 (fun x hx e => by
      subst e
      rcases FM_none hx with hx | hx
      · exact N7.out (FM_any hx)
      · rcases g3 _ hx with hx | hx
        · exact N7.out (.inr (.inr (.inr hx)))
        · omega)
    have m13 : Mods (fun x => FM b sb mb lv x ∨ x = w1.heap.size + 1) W w3 := (g2.mono (fun x _ h => .inl h)).trans m7 (fun x _ h => .inr h)
    have hlv' : ∀ y, lv'.ownBlock = some y → w0.heap.size + 2 ≤ y := fun y hy => (g3 y hy).elim (Hlv.out y) (fun h => by omega)
    have c7' := o7'.cell 0 (by decide)
    have c8' := o8'.cell 0 (by decide)
    have f8' := o8'.free 0
    have l8' := o8'.lt
    have hwb : ∀ x, FM b sb mb lv x ∨ x = w1.heap.size + 1 → w.heap.size ≤ x := fun x hx => by
      rcases hx with hx | hx
      · rcases FM_none hx with hx | hx
        · rcases hx with hx | hx | hx | hx
          · omega
          · omega
          · omega
          · simp [Value.ownBlock] at hx
        · have := Hlv.out x hx; have := HhE.out.size; omega
      · have := HE.out.size; omega
    have hext3 : Ext w w3 := ((Hi.out.ext.mods (fun x => FM b sb mb lv x ∨ x = w1.heap.size + 1)).trans m13 (fun _ _ h => h)).ext_of (fun x hx hs => by have := hwb x hs; omega)
    have HM3 := Lib.hid M3
    have Hm13 := Lib.hid m13
    have Hlv' := Lib.hid hlv'
    have Hext3 := Lib.hid hext3
    have O7 := Lib.hid o7'
    have O6 := Lib.hid o6'
    have O8 := Lib.hid o8'
    have hk1 : (k : Int) + 1 ≤ 1000001 := by omega
    clear g1 g2 g3 g4 m7 o7' o6' o8' M3 m13 hlv' hext3 hwb c6 c7 c8 f7 f8 d0 d1 d2 d3 d4 l6 l7 l8 l9
    cases r
    · have hcv : c = 160 := Hc.out.symm
      subst hcv
      gi_wp2
      have hB : hapB σ h = false := Hr.out
      refine ⟨KeepsBk.of_mods Hm13.out hs (fun h => ?_) (fun h => ?_), rfl, by have := Hstop.out hB; omega, by omega, O7.out, by rw [Hstop.out hB]; exact O8.out, Hext3.out⟩
      · rcases h with h | h
        · exact ND.out h
        · omega
      · rcases h with h | h
        · exact NL.out h
        · omega
    · have hcv : c = 0 := Hc.out.symm
      subst hcv
      have hw1 : IntKind.i64.wrap ((k : Int) + 1) = (k : Int) + 1 := IntWalk.i64_in _ ⟨by omega, by omega⟩
      gi_wp2
      have hB : hapB σ h = true := Hr.out
      have m8 := Mods.setCell w3 (w1.heap.size + 1 + 1) 0 (.int .i64 ((k : Int) + 1))
      have hwle := HE.out.size
      have m14 : Mods (fun x => (FM b sb mb lv x ∨ x = w1.heap.size + 1) ∨ x = w1.heap.size + 1 + 1) W (w3.setCell ⟨w1.heap.size + 1 + 1, 0, none⟩ (.int .i64 ((k : Int) + 1))) := (Hm13.out.mono (fun x _ h => .inl h)).trans m8 (fun _ _ h => .inr h)
      refine ⟨KeepsBk.of_mods m14 hs (fun h => ?_) (fun h => ?_), Hgo.out hB, by omega, ⟨lv', ?_, Hlv'.out⟩, ?_, ?_, ?_, ?_⟩
      · rcases h with (h | h) | h
        · exact ND.out h
        · omega
        · omega
      · rcases h with (h | h) | h
        · exact NL.out h
        · omega
        · omega
      · rw [Hst.out]
        refine HM3.out.mods m8 (fun x hx e => ?_)
        subst e
        rcases FM_none hx with hx | hx
        · exact N8.out (FM_any hx)
        · have := Hlv'.out _ hx; omega
      · exact O6.out.mods m8 (by omega)
      · exact O7.out.mods m8 (by omega)
      · exact (O8.out.set (i := 0) (by decide) (.int .i64 ((k : Int) + 1))).congr (fun i hi => by unfold upd; rw [if_pos (by omega)]; simp)
      · exact ((Hext3.out.mods (· = w1.heap.size + 1 + 1)).trans m8 (fun _ _ h => h)).ext_of (fun x hx e => by omega)
  case done =>
    intro W hI hD hs
    have c7 := hI.c7.cell 0 (by decide)
    have c8 := hI.c8.cell 0 (by decide)
    have l7 := hI.c7.lt
    have l8 := hI.c8.lt
    have Hok := Lib.hid hI.ok
    have Hext := Lib.hid hI.ext
    have HhE := Lib.hid hE
    clear hI hE hlt0 hE6 hE7 hE8 hE9 o6 o7 o8 o9
    gi_upto_region 10 with fail
    refine wpIn_region_plan hF [(0,1),(1,1),(2,0),(3,0)] (by kernel_rfl) (by kernel_rfl) (by kernel_rfl) (Ext W) (fun _ _ h k => h.trans k) (Ext.drawn _ _) ?_
    iterate 4
      first
        | refine Fx.skip rfl rfl (by simp only [List.set_cons_zero, List.set_cons_succ]; rfl) ?_
        | (with_reducible refine Fx.lab0 ?_
           first
             | refine Fx.moveT rfl rfl rfl (by simp only [List.set_cons_zero, List.set_cons_succ]; rfl) ?_
             | refine Fx.assignT rfl rfl rfl (by simp only [List.set_cons_zero, List.set_cons_succ]; rfl) ?_
             | refine Fx.pure_ rfl rfl (fun _ => by go_simp; first | done | rfl) (by simp only [List.set_cons_zero, List.set_cons_succ]; rfl) ?_)
        | (with_reducible refine Fx.lab1 ?_
           refine Fx.look rfl rfl (fun w' hC => by obtain ⟨hc, hf, hl⟩ := Ext.cells hC; go_simp; rfl) (by simp only [List.set_cons_zero, List.set_cons_succ]; rfl) ?_)
    refine Fx.done (fun w2 hC => ?_)
    have hD2 := (hC.blk (by omega)).trans hD
    have HC := Lib.hid hC
    clear hC
    gi_wp2
    have hN : okN (st0 n) l = l.length := Nat.le_antisymm (okN_le _ _) Hok.out
    refine ⟨by simp, .inl ⟨_, _, rfl, run_takeDeferred hD2, ?_⟩⟩
    refine ⟨_, results_tmp2 rfl _ _ _, ?_, (((Hext.out.trans HC.out).mods (· = w0.heap.size)).trans (Mods.putObj _ _ _) (fun _ _ h => h)).ext_of (fun x hx e => by have := HhE.out.size; omega)⟩
    rw [hN, if_pos rfl]; rfl
  case stop =>
    rintro c k W hk ⟨rfl, hok, hkl, hc7, hc8, hext⟩ hD hs
    have c7 := hc7.cell 0 (by decide)
    have c8 := hc8.cell 0 (by decide)
    have l7 := hc7.lt
    have l8 := hc8.lt
    have Hok := Lib.hid hok
    have Hkl := Lib.hid hkl
    have Hext := Lib.hid hext
    have HhE := Lib.hid hE
    clear hc7 hc8 hok hkl hext hE hlt0 hE6 hE7 hE8 hE9 o6 o7 o8 o9
    gi_upto_region 10 with fail
    refine wpIn_region_plan hF [(0,1),(1,1),(2,0),(3,0)] (by kernel_rfl) (by kernel_rfl) (by kernel_rfl) (Ext W) (fun _ _ h k => h.trans k) (Ext.drawn _ _) ?_
    iterate 4
      first
        | refine Fx.skip rfl rfl (by simp only [List.set_cons_zero, List.set_cons_succ]; rfl) ?_
        | (with_reducible refine Fx.lab0 ?_
           first
             | refine Fx.moveT rfl rfl rfl (by simp only [List.set_cons_zero, List.set_cons_succ]; rfl) ?_
             | refine Fx.assignT rfl rfl rfl (by simp only [List.set_cons_zero, List.set_cons_succ]; rfl) ?_
             | refine Fx.pure_ rfl rfl (fun _ => by go_simp; first | done | rfl) (by simp only [List.set_cons_zero, List.set_cons_succ]; rfl) ?_)
        | (with_reducible refine Fx.lab1 ?_
           refine Fx.look rfl rfl (fun w' hC => by obtain ⟨hc, hf, hl⟩ := Ext.cells hC; go_simp; rfl) (by simp only [List.set_cons_zero, List.set_cons_succ]; rfl) ?_)
    refine Fx.done (fun w2 hC => ?_)
    have hD2 := (hC.blk (by omega)).trans hD
    have HC := Lib.hid hC
    clear hC
    gi_wp2
    have hN : okN (st0 n) l ≠ l.length := by have := Hok.out; have := Hkl.out; omega
    refine ⟨by simp, .inl ⟨_, _, rfl, run_takeDeferred hD2, ?_⟩⟩
    refine ⟨_, results_tmp2 rfl _ _ _, ?_, (((Hext.out.trans HC.out).mods (· = w0.heap.size)).trans (Mods.putObj _ _ _) (fun _ _ h => h)).ext_of (fun x hx e => by have := HhE.out.size; omega)⟩
    rw [if_neg hN]; rfl

theorem check_at (w : World) (n : Nat) (h1 : 1 ≤ n) (h16 : n ≤ 16) (v : Value) (l : List Hp) (hl : HpL w v l) (hlen : l.length ≤ 1000000) :
    Calls Try.prog 11 #[.int .i64 n, v] w (CheckR n l w) := (callsIn_wide (n := 5)).1 (check_in w n h1 h16 v l hl hlen)
theorem check_no (w : World) (n : Int) (h1 : ¬ (1 ≤ n ∧ n ≤ 16)) (A : Option Addr) (len cap : Nat) :
    Calls Try.prog 11 #[.int .i64 n, .slice A len cap] w (fun e w' => e = .returned (.tuple #[.int .i64 0, .int .i64 2]) ∧ Ext w w') := by
  refine (callsIn_wide (n := 5)).1 ?_
  have hF := wideF_wide
  refine callsIn_of_wp_marks Try.func11 rfl trivial ?_
  simp only [Try.ntmps11, List.size_toArray, List.length_cons, List.length_nil, Nat.reduceAdd, Nat.reduceSub, Array.replicate_succ, Array.replicate_zero, List.push_toArray, List.append_toArray, List.nil_append, List.cons_append]
  gi_wp2
  refine wpIn_scope_straight ?_
  gi_wp2_with (first
    | (refine ⟨trivial, ?_⟩; gi_at_call 13; refine (hF.calls (new_no _ n h1)).mono ?_; rintro e w1 ⟨rfl, rfl⟩))
  have hE6 := Ext.alloc w1 (.cells #[.pointer none] 41)
  have s6 : (w1.alloc (.cells #[.pointer none] 41)).heap.size = w1.heap.size + 1 := by simp
  generalize w1.alloc (.cells #[.pointer none] 41) = w6 at *
  have hE7 := Ext.alloc w6 (.cells #[.int .i64 2] 25)
  have o7 := Obj_.new w6 25 #[.int .i64 2] (fun _ => .int .i64 2) (by intro i hi; simp at hi; subst hi; rfl)
  generalize w6.alloc (.cells #[.int .i64 2] 25) = w7 at *
  rw [s6] at o7
  have c7 := o7.cell 0 (by decide)
  have l7 := o7.lt
  have HE := Lib.hid (hE6.trans hE7)
  clear hE6 hE7 o7
  refine wpIn_region_plan hF [(0,1),(1,0),(2,0)] (by kernel_rfl) (by kernel_rfl) (by kernel_rfl) (Ext w7) (fun _ _ h k => h.trans k) (Ext.drawn _ _) ?_
  iterate 3
    first
      | refine Fx.skip rfl rfl (by simp only [List.set_cons_zero, List.set_cons_succ]; rfl) ?_
      | (with_reducible refine Fx.lab0 ?_
         first
           | refine Fx.moveT rfl rfl rfl (by simp only [List.set_cons_zero, List.set_cons_succ]; rfl) ?_
           | refine Fx.assignT rfl rfl rfl (by simp only [List.set_cons_zero, List.set_cons_succ]; rfl) ?_
           | refine Fx.pure_ rfl rfl (fun _ => by go_simp; first | done | rfl) (by simp only [List.set_cons_zero, List.set_cons_succ]; rfl) ?_)
      | (with_reducible refine Fx.lab1 ?_
         refine Fx.look rfl rfl (fun w' hC => by obtain ⟨hc, hf, hl⟩ := Ext.cells hC; go_simp; rfl) (by simp only [List.set_cons_zero, List.set_cons_succ]; rfl) ?_)
  refine Fx.done (fun w2 hC => ?_)
  have HC := Lib.hid hC
  clear hC
  gi_wp2
  exact ⟨_, results_tmp2 rfl _ _ _, rfl, HE.out.trans HC.out⟩
end Go.Proofs.Ytfnchpjiebojiaa
