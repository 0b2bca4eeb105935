/-
  detect.Detector: all, whatever is asked of each node.
-/
import Derived.Test.YtfdbfdbeegalpaaEach
namespace Go.Proofs.Ytfdbfdbeegalpaa
open Go.RowKit
attribute [local go_sem] Oper.semAt_some

def ints (l : List Nat) : List Int := l.map (fun (i : Nat) => (i : Int))
def flt (p : Nat → Bool) (k : Nat) : List Nat := (List.range k).filter p
theorem flt_succ (p : Nat → Bool) (k : Nat) : ints (flt p (k + 1)) = ints (flt p k) ++ (if p k = true then [(k : Int)] else []) := by
  unfold flt ints
  rw [List.range_succ, List.filter_append, List.map_append]
  by_cases h : p k = true <;> simp [h]
theorem flt_len (p : Nat → Bool) (k : Nat) : (ints (flt p k)).length ≤ k := by
  unfold flt ints
  rw [List.length_map]
  have := List.length_filter_le p (List.range k)
  rwa [List.length_range] at this
def AllR (w : World) (l : List Nat) (e : Ending) (w' : World) : Prop := ∃ v, e = .returned v ∧ OwnI w' v (ints l) ∧ Ext w w' ∧ ∀ y, v.ownBlock = some y → w.heap.size ≤ y

structure AllI (w w0 : World) (b mb B3 B5 Bq : Nat) (fv : Value) (σ : DSt) (p : Nat → Bool) (k : Nat) (W : World) : Prop where
  ex : ∃ nv, Obj_ W B5 1 (fun _ => nv) ∧ OwnI W nv (ints (flt p k)) ∧ ∀ y, nv.ownBlock = some y → w0.heap.size + 2 ≤ y
  d : DetAt W b mb σ
  f : Obj_ W B3 1 (fun _ => fv)
  q : Obj_ W Bq 1 (fun _ => .pointer (some ⟨b, 0, none⟩))
  e : Ext w W
structure AllP (w w0 : World) (b mb B3 B5 Bq : Nat) : Prop where
  b : b < w.heap.size
  m : mb < w.heap.size
  ws : w.heap.size ≤ w0.heap.size
  b30 : w.heap.size ≤ B3
  b3 : B3 < w0.heap.size
  b50 : w.heap.size ≤ B5
  b5 : B5 < w0.heap.size
  bq0 : w.heap.size ≤ Bq
  bq : Bq < w0.heap.size
  n35 : B3 ≠ B5
  nq5 : Bq ≠ B5
theorem AllI.mods {w w0 W W' : World} {b mb B3 B5 Bq : Nat} {fv : Value} {σ : DSt} {p : Nat → Bool} {k : Nat} (hP : AllP w w0 b mb B3 B5 Bq) (h : AllI w w0 b mb B3 B5 Bq fv σ p k W) (hm : Mods (Bk w0) W W') : AllI w w0 b mb B3 B5 Bq fv σ p k W' := by
  obtain ⟨nv, h1, h2, h3⟩ := h.ex
  obtain ⟨q1, q2, q3, q4, q5, q6, q7, q8, q9, q10, q11⟩ := hP
  refine ⟨⟨nv, h1.mods hm (by unfold Bk; omega), h2.mods hm (fun y hy hs => by have := h3 y hy; unfold Bk at hs; omega), h3⟩, h.d.mods hm (fun x hx hs => by unfold FD at hx; unfold Bk at hs; omega), h.f.mods hm (by unfold Bk; omega), h.q.mods hm (by unfold Bk; omega), ?_⟩
  exact ((h.e.mods (Bk w0)).trans hm (fun _ _ h => h)).ext_of (fun x hx hs => by unfold Bk at hs; omega)
theorem AllI.ext' {w w0 W W' : World} {b mb B3 B5 Bq : Nat} {fv : Value} {σ : DSt} {p : Nat → Bool} {k : Nat} (h : AllI w w0 b mb B3 B5 Bq fv σ p k W) (hm : Ext W W') : AllI w w0 b mb B3 B5 Bq fv σ p k W' := by
  obtain ⟨nv, h1, h2, h3⟩ := h.ex
  exact ⟨⟨nv, h1.ext hm, h2.ext hm, h3⟩, h.d.ext hm, h.f.ext hm, h.q.ext hm, h.e.trans hm⟩
theorem run_alloc_il (w : World) : (Instr.alloc 25 true (.tuple #[])).run Try.prog w = .ok (.pointer (some ⟨w.heap.size, 0, none⟩)) (w.alloc (.cells #[.slice none 0 0] 25)) := by
  simp [go_sem, Try.zeroValue25]
theorem stepAt_alloc_il {a : Act} {d : Option Tmp} {t : TypeId} {s : String} {af : Array Edge} {g : Option (Nat × Bool)} {W w : World} (hC : Ext W w) : stepAt Try.prog ⟨d, .alloc 25, t, s, af, g⟩ a w (fun u w' => ∃ b, u = .pointer (some ⟨b, 0, none⟩) ∧ Ext w w' ∧ W.heap.size ≤ b ∧ Obj_ w' b 1 (fun _ => .slice none 0 0)) := by
  unfold stepAt
  simp only [execOp, Sem.run_bind, run_alloc_il, Result.andThen_ok]
  exact ⟨_, rfl, Ext.alloc _ _, hC.size, Obj_.new w 25 #[.slice none 0 0] (fun _ => .slice none 0 0) (by intro i hi; simp at hi; subst hi; rfl)⟩
def alL (b B3 B5 Bq : Nat) (fv v6 v7 v10 v11 : Value) : List Value :=
  [.pointer (some ⟨b, 0, none⟩), fv, undef, .pointer (some ⟨B3, 0, none⟩), .slice none 0 0, .pointer (some ⟨B5, 0, none⟩), v6, v7, .pointer (some ⟨b, 0, none⟩), .func (.func 23) #[] #[.pointer (some ⟨Bq, 0, none⟩)], v10, v11, undef, undef, undef, undef, undef, undef, undef, undef, undef]
def AllA (w w0 : World) (b mb B3 B5 Bq : Nat) (fv : Value) (σ : DSt) (p : Nat → Bool) (k : Nat) (a' : Act) (W : World) : Prop :=
  AllI w w0 b mb B3 B5 Bq fv σ p k W ∧ ∃ B7, w0.heap.size + 2 ≤ B7 ∧ Obj_ W B7 3 (ndF (σ.nd k)) ∧ a' = Act.mk (alL b B3 B5 Bq fv (.int .i64 k) (.pointer (some ⟨B7, 0, none⟩)) (.int .i64 k) (σ.nd k).val).toArray []

set_option maxRecDepth 100000 in
set_option maxHeartbeats 3200000 in
theorem all_in {w : World} {b mb : Nat} {σ : DSt} (hM : DetAt w b mb σ) (hn16 : σ.n ≤ 16) (g : FuncId) (lb : Array Value) (heg : ∀ args w, (callFunc g args).run Try.prog w = .ok (.enter g args) w) (p : Nat → Bool)
    (hcall : ∀ i, i < σ.n → ∀ W, Ext w W → Calls Try.prog g (#[.int .i64 i, (σ.nd i).val] ++ lb) W (fun e W' => e = .returned (.bool (p i)) ∧ Ext W W')) :
    CallsIn Fence.wide 5 Try.prog 17 #[.pointer (some ⟨b, 0, none⟩), .func (.func g) #[] lb] w (AllR w (flt p σ.n)) := by
  have hF := wideF_wide
  have o3 := Obj_.new w 52 #[.func (.func g) #[] lb] (fun _ => .func (.func g) #[] lb) (by intro i hi; simp at hi; subst hi; rfl)
  have e3 := Ext.alloc w (.cells #[.func (.func g) #[] lb] 52)
  have HM := Lib.hid (hM.ext e3)
  have Hc := Lib.hid hcall
  have hb0 := hM.lt (x := b) (.inl rfl)
  have hm0 := hM.lt (x := mb) (.inr rfl)
  have hs3 : (w.alloc (.cells #[.func (.func g) #[] lb] 52)).heap.size = w.heap.size + 1 := by simp
  have O3 := Lib.hid o3
  have E3 := Lib.hid e3
  have Heg := Lib.hid heg
  clear hM hcall o3 e3 heg
  refine callsIn_of_wp_marks Try.func17 rfl trivial ?_
  simp only [Try.ntmps17, List.size_toArray, List.length_cons, List.length_nil, Nat.reduceAdd, Nat.reduceSub, Array.replicate_succ, Array.replicate_zero, List.push_toArray, List.append_toArray, List.nil_append, List.cons_append]
  gi_upto_region 1 with fail
  generalize hw1 : w.alloc (.cells #[.func (.func g) #[] lb] 52) = w1 at *
  obtain ⟨fv, hfv⟩ : ∃ fv : Value, .func (.func g) #[] lb = fv := ⟨_, rfl⟩
  rw [hfv] at O3 ⊢
  have Hfv := Lib.hid hfv
  clear hw1 hfv
  refine wpIn_region_line hF [(0,2)] (by kernel_rfl) (by kernel_rfl) (Ext w1) (fun _ _ h k => h.trans k) (Ext.refl _) ?_
  refine Fx.mkPtr (fun B w2 => w1.heap.size ≤ B ∧ Obj_ w2 B 1 (fun _ => .slice none 0 0)) (fun B _ _ h k => ⟨h.1, h.2.ext k⟩) rfl rfl (fun w2 hC => stepAt_alloc_il hC) (fun B5 => ?_)
  simp only [List.set_cons_zero, List.set_cons_succ]
  refine Fx.done (fun w2 hC => ?_)
  obtain ⟨e2, hB5, o5⟩ := hC
  have hs2 := o5.lt
  have oq := box_ptr w2 b 24
  have eq := Ext.alloc w2 (.cells #[.pointer (some ⟨b, 0, none⟩)] 24)
  have I0 : AllI w (w2.alloc (.cells #[.pointer (some ⟨b, 0, none⟩)] 24)) b mb w.heap.size B5 w2.heap.size fv σ p 0 (w2.alloc (.cells #[.pointer (some ⟨b, 0, none⟩)] 24)) :=
    ⟨⟨.slice none 0 0, o5.ext eq, by simpa [flt, ints] using Own.nil, fun y hy => by simp [Value.ownBlock] at hy⟩, HM.out.ext (e2.trans eq), O3.out.ext (e2.trans eq), oq, (E3.out.trans e2).trans eq⟩
  have hsz : (w2.alloc (.cells #[.pointer (some ⟨b, 0, none⟩)] 24)).heap.size = w2.heap.size + 1 := by simp
  have hP : AllP w (w2.alloc (.cells #[.pointer (some ⟨b, 0, none⟩)] 24)) b mb w.heap.size B5 w2.heap.size := by
    have h12 := e2.size
    exact ⟨hb0, hm0, by omega, Nat.le_refl _, by omega, by omega, by omega, by omega, by omega, by omega, by omega⟩
  have HI0 := Lib.hid I0
  have HP := Lib.hid hP
  clear I0 hP oq eq e2 hB5 o5 hsz hs3
  gi_upto_region 2 with fail
  gi_wp2_with (refine ⟨trivial, ?_⟩; gi_at_call 20; refine (hF.calls (each_at _ _)).mono ?_; rintro e w3 ⟨rfl, hw3⟩)
  subst hw3
  generalize w2.alloc (.cells #[.pointer (some ⟨b, 0, none⟩)] 24) = w0 at *
  obtain ⟨Bq, hBq⟩ : ∃ Bq, w2.heap.size = Bq := ⟨_, rfl⟩
  rw [hBq] at HI0 HP ⊢
  clear hBq
  refine rangeFunc_law hF rfl (gf := 23) (lb := #[.pointer (some ⟨Bq, 0, none⟩)]) ?hg (fun args w => callFunc_at _ (by kernel_rfl) args w)
    σ.n (fun k => #[.int .i64 k, (σ.nd k).val]) (fun _ _ => rfl) (AllI w w0 b mb w.heap.size B5 Bq fv σ p) (fun _ _ _ => False) ?hI ?hIx ?h0 ?hseq (AllA w w0 b mb w.heap.size B5 Bq fv σ p) ?hA ?hassign ?hbody ?hdone ?hstop
  case hg => rfl
  case hI => exact fun k W W' h hm => h.mods HP.out hm
  case hIx => exact fun _ _ _ _ h _ => h.elim
  case h0 => exact HI0.out
  case hseq => exact fun W hm => each_iter hF rfl _ _ b mb Bq σ hn16 (fun k W h => ⟨h.q.cell 0 (by decide), h.d⟩) W
  case hA =>
    rintro k a' W W' ⟨h1, B7, h2, h3, h5⟩ hm
    exact ⟨h1.mods HP.out hm, B7, h2, h3.mods hm (by unfold Bk; omega), h5⟩
  case hassign =>
    intro l k W hk hi hs
    simp only [List.zip_toArray, List.zip_cons_cons, List.zip_nil_left, List.zip_nil_right, List.foldl_toArray, List.foldl_toArray', List.foldl_cons, List.foldl_nil, List.setIfInBounds_toArray, List.set_cons_succ, List.set_cons_zero]
    show Code.wpIn (Fence.wide.inRound l) _ _ _ _ (Act.mk (alL b w.heap.size B5 Bq fv undef undef (.int .i64 k) (σ.nd k).val).toArray []) W
    unfold alL
    obtain ⟨x, hx⟩ : ∃ x, σ.nd k = x := ⟨_, rfl⟩
    rw [hx]
    have Hx := Lib.hid hx
    clear hx
    gi_upto_region 4 with fail
    refine wpIn_region_line (hF.inRound l) [(0,2),(1,3)] (by kernel_rfl) (by kernel_rfl) (Ext W) (fun _ _ h k => h.trans k) (Ext.refl _) ?_
    refine Fx.mkPtr (fun B w' => W.heap.size ≤ B ∧ Obj_ w' B 3 (ndF nd0)) (fun B _ _ h k => ⟨h.1, h.2.ext k⟩) rfl rfl (fun w' hC => stepAt_alloc_Nd hC) (fun B => ?_)
    simp only [List.set_cons_zero, List.set_cons_succ]
    refine Fx.eff0 (NdPre W B x) (ndPre_stable _ _ _) rfl rfl (fun w' hC => stepAt_mono (stepAt_store_Nd hC.1 hC.2.1 hC.2.2 x rfl rfl) (fun _ w'' h => ⟨h.1, hC.2.1, h.2⟩)) ?_
    refine Fx.done (fun w3 hC => ?_)
    obtain ⟨hC1, hB, hOb⟩ := hC
    exact ⟨hC1, hi.ext' hC1, B, Nat.le_trans hs hB, by rw [Hx.out]; exact hOb, by rw [Hx.out]; rfl⟩
  case hbody =>
    rintro l k a' W hk ⟨hi, B7, hB7, hO7, rfl⟩ hs
    have hFq := hF.inRound l
    obtain ⟨nv, h5, hown, hnf⟩ := hi.ex
    have hcl := fun W' hE => Hc.out k hk W' (hi.e.trans hE)
    obtain ⟨x, hx⟩ : ∃ x, σ.nd k = x := ⟨_, rfl⟩
    rw [hx] at hO7 hcl ⊢
    obtain ⟨r, hr⟩ : ∃ r, p k = r := ⟨_, rfl⟩
    rw [hr] at hcl
    have hfl := flt_succ p k
    rw [hr] at hfl
    obtain ⟨d0, d1, d2⟩ := hO7.nd
    have dl := hO7.lt
    have c3 := hi.f.cell 0 (by decide)
    have l3 := hi.f.lt
    have c5 := h5.cell 0 (by decide)
    have f5 := h5.free 0
    have l5 := h5.lt
    have Hcl := Lib.hid hcl
    have Hfl := Lib.hid hfl
    have HI := Lib.hid hi
    have H5 := Lib.hid h5
    have HOW := Lib.hid hown
    have HNF := Lib.hid hnf
    clear hcl hfl hi h5 hown hnf hx hr hO7
    unfold alL
    gi_upto_region 5 with fail
    refine wpIn_region_line hFq [(0,1),(1,0),(2,1),(3,1)] (by kernel_rfl) (by kernel_rfl) (Ext W) (fun _ _ h k => h.trans k) (Ext.refl _) ?_
    iterate 2
      first
        | refine Fx.skip rfl rfl (by simp only [List.set_cons_zero, List.set_cons_succ]; rfl) ?_
        | (with_reducible refine Fx.lab0 ?_
           first
             | refine Fx.moveT rfl rfl rfl (by simp only [List.set_cons_zero, List.set_cons_succ]; rfl) ?_
             | refine Fx.assignT rfl rfl rfl (by simp only [List.set_cons_zero, List.set_cons_succ]; rfl) ?_
             | refine Fx.pure_ rfl rfl (fun _ => by go_simp; first | done | rfl) (by simp only [List.set_cons_zero, List.set_cons_succ]; rfl) ?_)
        | (with_reducible refine Fx.lab1 ?_
           refine Fx.look rfl rfl (fun w' hC => by obtain ⟨hc, hf, hl⟩ := Ext.cells hC; go_simp; rfl) (by simp only [List.set_cons_zero, List.set_cons_succ]; rfl) ?_)
    refine Fx.look rfl rfl (op_load_Nd' (m := x) dl d0 d1 d2 rfl) (by simp only [List.set_cons_zero, List.set_cons_succ]; rfl) ?_
    refine Fx.call1 (v := .bool r) (f := g) (args := #[.int .i64 k, x.val] ++ lb) rfl rfl (fun w' => by
      have e := Hfv.out
      clear c3 c5
      subst e
      simp [execOp, resolve, invoke, go_sem, Heg.out]) (fun w' hC => Hcl.out w' hC) (by simp only [List.set_cons_zero, List.set_cons_succ]; rfl) ?_
    refine Fx.done (fun w4 hC => ?_)
    obtain ⟨xc, xf, xl⟩ := hC.cells
    replace c5 := (xc _ _ l5).trans c5
    replace f5 := (xf _ _ l5).trans f5
    replace l5 := xl _ l5
    have HE4 := Lib.hid hC
    clear xc xf xl hC d0 d1 d2 c3
    cases r with
    | false =>
      gi_wp2
      have hn := HP.out
      have hI4 := HI.out.ext' HE4.out
      obtain ⟨nv2, q1, q2, q3⟩ := hI4.ex
      exact ⟨KeepsBk.of_mods (HE4.out.mods (fun _ => False)) hs (fun h => h) (fun h => h), ⟨⟨nv2, q1, by rw [Hfl.out]; simpa using q2, q3⟩, hI4.d, hI4.f, hI4.q, hI4.e⟩⟩
    | true =>
      have hln : (ints (flt p k)).length + 1 ≤ 1073741824 := by have := flt_len p k; omega
      have HLN := Lib.hid hln
      have hnv5 : ∀ c, nv.ownBlock = some c → c ≠ B5 := fun c hc => by have := HNF.out c hc; have := HP.out.b5; omega
      have HNV5 := Lib.hid hnv5
      clear hln hnv5
      gi_upto_region 6 with fail
      refine wpIn_region_line hFq [(0,1),(1,0),(2,2),(3,3),(4,3)] (by kernel_rfl) (by kernel_rfl) (Ext w4) (fun _ _ h k => h.trans k) (Ext.refl _) ?_
      iterate 2
        first
          | refine Fx.skip rfl rfl (by simp only [List.set_cons_zero, List.set_cons_succ]; rfl) ?_
          | (with_reducible refine Fx.lab0 ?_
             first
               | refine Fx.moveT rfl rfl rfl (by simp only [List.set_cons_zero, List.set_cons_succ]; rfl) ?_
               | refine Fx.assignT rfl rfl rfl (by simp only [List.set_cons_zero, List.set_cons_succ]; rfl) ?_
               | refine Fx.pure_ rfl rfl (fun _ => by go_simp; first | done | rfl) (by simp only [List.set_cons_zero, List.set_cons_succ]; rfl) ?_)
          | (with_reducible refine Fx.lab1 ?_
             refine Fx.look rfl rfl (fun w' hC => by obtain ⟨hc, hf, hl⟩ := Ext.cells hC; go_simp; rfl) (by simp only [List.set_cons_zero, List.set_cons_succ]; rfl) ?_)
      refine Fx.mkSl 1 1 (fun B w' => IL .i64 w' (.slice (some ⟨B, 0, none⟩) 1 1) [(k : Int)]) (fun B _ _ h k => h.ext k) rfl rfl (fun w' hC => stepAt_litI1 hC k rfl) (fun B => ?_)
      simp only [List.set_cons_zero, List.set_cons_succ]
      refine Fx.eff (fun v' w' => OwnI w' v' (ints (flt p k) ++ [(k : Int)]) ∧ Mods (fun c => nv.ownBlock = some c) w4 w' ∧ (∀ c, v'.ownBlock = some c → nv.ownBlock = some c ∨ w4.heap.size ≤ c)) (fun v _ _ h k => ⟨h.1.ext k, h.2.1.then_ k, h.2.2⟩) rfl rfl
        (fun w' hC => stepAt_appendI hC.1 ((HOW.out.ext HE4.out).ext hC.1) hC.2 HLN.out rfl rfl) (fun nv' => ?_)
      simp only [List.set_cons_zero, List.set_cons_succ]
      refine Fx.store ⟨B5, 0, none⟩ nv' rfl rfl (fun w' hC => by
        obtain ⟨hc, hf, hl⟩ := hC.2.1.cells
        have e1 := (hc B5 0 l5 (fun h => HNV5.out _ h rfl)).trans c5
        have e2 := (hf B5 0 l5 (fun h => HNV5.out _ h rfl)).trans f5
        obtain ⟨A, n, vv⟩ : ∃ A n cap, nv' = .slice A n cap := by obtain ⟨A, cap, e, _⟩ := hC.1.val; exact ⟨_, _, _, e⟩
        obtain ⟨cap, rfl⟩ := vv
        clear hc hf hl hC
        go_simp) ?_
      refine Fx.done (fun w6 hC => ?_)
      obtain ⟨w5, ⟨h5, h5', h5''⟩, h6⟩ := hC
      have HH5 := Lib.hid h5
      have HH5' := Lib.hid h5'
      have HH5'' := Lib.hid h5''
      have HH6 := Lib.hid h6
      clear h5 h5' h5'' h6 c5 f5
      gi_wp2
      have m6 : Mods (· = B5) w5 w6 := (Mods.setCell w5 B5 _ _).then_ HH6.out
      have s4 := HE4.out.size
      have hp := HP.out
      obtain ⟨q1, q2, q3, q4, q5, q6, q7, q8, q9, q10, q11⟩ := hp
      have mall : Mods (fun c => nv.ownBlock = some c ∨ c = B5) W w6 := ((HE4.out.mods _).trans HH5'.out (fun _ _ h => .inl h)).trans m6 (fun _ _ h => .inr h)
      have hold : ∀ x, x < w0.heap.size → x ≠ B5 → ¬ (nv.ownBlock = some x ∨ x = B5) := fun x hx hne h => by
        rcases h with h | h
        · have := HNF.out x h; omega
        · exact hne h
      have hbk : ∀ x, x = w0.heap.size ∨ x = w0.heap.size + 1 → ¬ (nv.ownBlock = some x ∨ x = B5) := fun x hx h => by
        rcases h with h | h
        · have := HNF.out x h; omega
        · omega
      refine ⟨KeepsBk.of_mods mall hs (hbk _ (.inl rfl)) (hbk _ (.inr rfl)), ⟨⟨nv', ?_, ?_, ?_⟩, ?_, ?_, ?_, ?_⟩⟩
      · exact ((((H5.out.ext HE4.out).mods HH5'.out (fun h => HNV5.out _ h rfl)).set (i := 0) (by decide) nv').ext HH6.out).congr (fun i hi => by unfold upd; rw [if_pos (by omega)])
      · rw [Hfl.out]
        refine HH5.out.mods m6 (fun c hc e => ?_)
        rcases HH5''.out c hc with h | h
        · exact HNV5.out c h e
        · omega
      · intro c hc
        rcases HH5''.out c hc with h | h
        · exact HNF.out c h
        · omega
      · exact HI.out.d.mods mall (fun x hx => hold x (by unfold FD at hx; omega) (by unfold FD at hx; omega))
      · exact HI.out.f.mods mall (hold _ (by omega) (by omega))
      · exact HI.out.q.mods mall (hold _ (by omega) (by omega))
      · exact ((HI.out.e.mods _).trans mall (fun _ _ h => h)).ext_of (fun x hx h => hold x (by omega) (by omega) h)
  case hdone =>
    intro W hI hD hs
    obtain ⟨nv, h5, hown, hnf⟩ := hI.ex
    have c5 := h5.cell 0 (by decide)
    have l5 := h5.lt
    have HOW := Lib.hid hown
    have HNF := Lib.hid hnf
    have HI := Lib.hid hI
    have HD := Lib.hid hD
    have hws := HP.out.ws
    obtain ⟨A, cap, rfl, -⟩ := hown.val
    clear hI h5 hown hnf hD
    gi_wp2
    refine ⟨by simp, .inl ⟨_, _, rfl, run_takeDeferred HD.out, ?_⟩⟩
    have mD : Mods (· = w0.heap.size) W (W.putObj w0.heap.size (.deferred none)) := Mods.putObj _ _ _
    refine ⟨_, results_tmp rfl _ _ _, ?_⟩
    refine ⟨_, rfl, HOW.out.mods mD (fun c hc e => by have := HNF.out c hc; omega), ((HI.out.e.mods _).trans mD (fun _ _ h => h)).ext_of (fun x hx e => by omega), fun y hy => by have := HNF.out y hy; omega⟩
  case hstop => exact fun _ _ _ _ h => h.elim
end Go.Proofs.Ytfdbfdbeegalpaa
