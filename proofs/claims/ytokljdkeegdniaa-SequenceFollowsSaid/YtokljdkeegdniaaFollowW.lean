/-
  rostrumlaw11.SequenceFollows: what it computes.
-/
import Derived.Test.YtokljdkeegdniaaRefM
import Derived.Test.YtokljdkeegdniaaAllS
import Derived.Test.YtokljdkeegdniaaOpenW
namespace Go.Proofs.Ytokljdkeegdniaa
open Go.RowKit
attribute [local go_sem] Oper.semAt_some

/-- The follower and the document's one, apart. -/
structure FolW (wb : World) (c mw mb : Nat) (σ : FwSt) (r : Nat) (wv bv : Value) (τ : FwSt) (W : World) : Prop where
  f : FwI wb c mw mb σ W
  g : RfAt W r wv bv τ
  fr : ∀ x, FR r wv bv x → wb.heap.size ≤ x ∧ ¬ FF c mw mb x
section
variable {wb W W' : World} {c mw mb r : Nat} {σ σ' τ τ' : FwSt} {wv bv wv' bv' nv : Value} {l : List Ms}
theorem FolW.ext (h : FolW wb c mw mb σ r wv bv τ W) (he : Ext W W') : FolW wb c mw mb σ r wv bv τ W' := ⟨h.f.ext' he, h.g.ext he, h.fr⟩
theorem FolW.fw (h : FolW wb c mw mb σ r wv bv τ W) (hp : FwAt W' c mw mb σ') (hm : Mods (FF c mw mb) W W') : FolW wb c mw mb σ' r wv bv τ W' :=
  ⟨h.f.step hp hm, h.g.mods hm (fun x hx => (h.fr x hx).2), h.fr⟩
theorem FolW.rf (h : FolW wb c mw mb σ r wv bv τ W) (k : RfG W r wv bv wv' bv' τ' nv l W') : FolW wb c mw mb σ r wv' bv' τ' W' := by
  have hs := h.f.e.size
  have key : ∀ x, W.heap.size ≤ x → wb.heap.size ≤ x ∧ ¬ FF c mw mb x := fun x hx => ⟨by omega, fun hf => by have := h.f.p.lt hf; omega⟩
  refine ⟨⟨h.f.p.mods k.m (fun x hx e => (h.fr x e).2 hx), h.f.fr, ((h.f.e.mods _).trans k.m (fun _ _ h => h)).ext_of (fun x hx e => by have := (h.fr x e).1; omega)⟩, k.v, fun x hx => ?_⟩
  rcases hx with e | e | e
  · exact h.fr x (.inl e)
  · exact (k.fw x e).elim (fun e => h.fr x (.inr (.inl e))) (key x)
  · exact (k.fb x e).elim (fun e => h.fr x (.inr (.inr e))) (key x)
end
theorem stepAt_box_Rf {a : Act} {d : Option Tmp} {x : Operand} {t : TypeId} {s : String} {af : Array Edge} {g : Option (Nat × Bool)} {W w : World} (hC : Ext W w) (e : Int) (hx : a.eval x = .agg #[.int .u32 e, .int .u32 1, .slice none 0 0, .slice none 0 0]) :
    stepAt Try.prog ⟨d, .box 30 x, t, s, af, g⟩ a w (fun u w' => ∃ b, u = .pointer (some ⟨b, 0, none⟩) ∧ Ext w w' ∧ W.heap.size ≤ b ∧ Obj_ w' b 4 (rfF e 1 (.slice none 0 0) (.slice none 0 0))) := by
  have hr : (execOp a.eval ⟨d, .box 30 x, t, s, af, g⟩).run Try.prog w = .ok (.value (.pointer (some ⟨w.heap.size, 0, none⟩))) (w.alloc (.cells #[.int .u32 e, .int .u32 1, .slice none 0 0, .slice none 0 0] 30)) := by
    simp only [execOp, hx]
    first | (go_simp; done) | (go_simp; rfl)
  unfold stepAt
  rw [hr]
  refine ⟨_, rfl, Ext.alloc _ _, hC.size, Obj_.new w _ #[.int .u32 e, .int .u32 1, .slice none 0 0, .slice none 0 0] _ (fun i hi => ?_)⟩
  simp at hi
  match i, hi with
  | 0, _ => rfl
  | 1, _ => rfl
  | 2, _ => rfl
  | 3, _ => rfl
set_option maxRecDepth 100000 in
set_option maxHeartbeats 12800000 in
theorem follows_law (w : World) (e0 : Int) (v : Value) (L : List Ac) (hl : AcL w v L) : Calls Try.prog 3 #[.int .u32 e0, v] w (LawP w) := by
  obtain ⟨lA, lcap, rfl, hcap, hmax⟩ := hl.val
  have hLl : L.length ≤ 9223372036854775807 := Nat.le_trans hcap (Nat.le_trans hmax (by decide))
  have HLw := Lib.hid hl
  clear hl hcap hmax
  go_enter Try.func3, Try.ntmps3
  go_upto_region 3 with (first
    | (go_at_call 9; refine (shown_at _).mono ?_; rintro e wb ⟨rfl, hE⟩; have Hb := Lib.hid hE; clear hE)
    | (go_at_call 10; refine (newF_at _ _).mono ?_; rintro e w5 ⟨c, mw, mb, rfl, hM, hE, hf⟩; have HF := Lib.hid (show FwI wb c mw mb (fw0 e0) w5 from ⟨hM, hf, hE⟩); clear hM hE hf))
  refine wp_region_line [(0,0),(1,0),(2,2),(3,0)] (by kernel_rfl) (by kernel_rfl) (Ext w5) (fun _ _ h k => h.trans k) (Ext.refl _) ?_
  first
    | refine Fx.skip rfl rfl (by simp only [List.set_cons_zero, List.set_cons_succ]; rfl) ?_
    | (with_reducible refine Fx.lab0 ?_
       first
         | refine Fx.moveT rfl rfl rfl (by simp only [List.set_cons_zero, List.set_cons_succ]; rfl) ?_
         | refine Fx.assignT rfl rfl rfl (by simp only [List.set_cons_zero, List.set_cons_succ]; rfl) ?_
         | refine Fx.pure_ rfl rfl (fun _ => by go_simp; first | done | rfl) (by simp only [List.set_cons_zero, List.set_cons_succ]; rfl) ?_)
    | (with_reducible refine Fx.lab1 ?_
       refine Fx.look rfl rfl (fun w' hC => by obtain ⟨hc, hf, hl⟩ := Ext.cells hC; go_simp; rfl) (by simp only [List.set_cons_zero, List.set_cons_succ]; rfl) ?_)
  refine Fx.pure_ (v := .agg #[.int .u32 e0, .int .u32 1, .slice none 0 0, .slice none 0 0]) rfl rfl (fun _ => by first | (go_simp; done) | (go_simp; rfl)) (by simp only [List.set_cons_zero, List.set_cons_succ]; rfl) ?_
  refine Fx.mkPtr (fun B w' => w5.heap.size ≤ B ∧ Obj_ w' B 4 (rfF e0 1 (.slice none 0 0) (.slice none 0 0))) (fun B _ _ h k => ⟨h.1, h.2.ext k⟩) rfl rfl (fun w' hC => stepAt_box_Rf hC e0 rfl) (fun r => ?_)
  simp only [List.set_cons_zero, List.set_cons_succ]
  first
    | refine Fx.skip rfl rfl (by simp only [List.set_cons_zero, List.set_cons_succ]; rfl) ?_
    | (with_reducible refine Fx.lab0 ?_
       first
         | refine Fx.moveT rfl rfl rfl (by simp only [List.set_cons_zero, List.set_cons_succ]; rfl) ?_
         | refine Fx.assignT rfl rfl rfl (by simp only [List.set_cons_zero, List.set_cons_succ]; rfl) ?_
         | refine Fx.pure_ rfl rfl (fun _ => by go_simp; first | done | rfl) (by simp only [List.set_cons_zero, List.set_cons_succ]; rfl) ?_)
    | (with_reducible refine Fx.lab1 ?_
       refine Fx.look rfl rfl (fun w' hC => by obtain ⟨hc, hf, hl⟩ := Ext.cells hC; go_simp; rfl) (by simp only [List.set_cons_zero, List.set_cons_succ]; rfl) ?_)
  refine Fx.done (fun w6 hC => ?_)
  have HW0 : Hid (FolW wb c mw mb (fw0 e0) r (.slice none 0 0) (.slice none 0 0) (fw0 e0) w6) := by
    obtain ⟨hE, hr, hO⟩ := hC
    have hs := HF.out.e.size
    refine Lib.hid ⟨HF.out.ext' hE, ⟨hO, Own.nil, Own.nil, fun x hx => by simp [Value.ownBlock] at hx, fun x hx => by simp [Value.ownBlock] at hx, fun x hx => by simp [Value.ownBlock] at hx⟩, fun x hx => ?_⟩
    rcases hx with e | e | e
    · subst e; exact ⟨by omega, fun hf => by have := HF.out.p.lt hf; omega⟩
    · simp [Value.ownBlock] at e
    · simp [Value.ownBlock] at e
  clear hC HF
  go_wp2
  go_loopw [8] (fun q wr => ∃ (k : Nat) (σ τ : FwSt) (wv bv : Value), q = .int .i64 k ∧ k ≤ L.length ∧ k ≤ 100 ∧ Hid (FolW wb c mw mb σ r wv bv τ wr) ∧ Hid (FolI k σ τ)) (fun q _ => L.length - (intOf q).toNat)
  case atStart => exact ⟨0, _, _, _, _, rfl, Nat.zero_le _, Nat.zero_le _, HW0, Lib.hid (FolI.zero e0)⟩
  case round =>
    clear HW0
    obtain ⟨k, σ, τ, wv, bv, rfl, hkL, hk100, hW, hI⟩ := hrel
    rcases (show (k < L.length ∧ k < 100) ∨ (k < L.length ∧ ¬ k < 100) ∨ ¬ k < L.length by omega) with hgo | hgo | hgo
    · obtain ⟨hlt, hlt2⟩ := hgo
      have hd1 : decide ((k : Int) < (L.length : Int)) = true := by apply decide_eq_true; omega
      have hd2 : decide ((k : Int) < 100) = true := by apply decide_eq_true; omega
      have hwk : IntKind.i64.wrap ((k : Int) + 1) = (k : Int) + 1 := IntWalk.i64_in _ ⟨by omega, by omega⟩
      obtain ⟨ab, aoff, rfl, -, -, -⟩ := Sl.atAc HLw.out hlt
      obtain ⟨mv, hmv⟩ : ∃ t, L[k].mv = t := ⟨_, rfl⟩
      obtain ⟨x, hx⟩ : ∃ t, L[k].x = t := ⟨_, rfl⟩
      have hac : ∀ W, Ext w W → ab < W.heap.size ∧ W.cell? ⟨ab, aoff + k * 6, none⟩ = some (.bool mv) ∧ NbCells W ab (aoff + k * 6 + 1) x := fun W hW => by
        obtain ⟨b', o', e, h1, h2, h3⟩ := Sl.atAc (HLw.out.ext hW) hlt
        simp only [Option.some.injEq, Addr.mk.injEq, and_true] at e
        obtain ⟨rfl, rfl⟩ := e
        exact ⟨h1, by rw [← hmv]; exact h2, by rw [← hx]; exact h3⟩
      have Hac := Lib.hid hac
      have HEw := Lib.hid (Hb.out.trans hW.out.f.e)
      clear hac hmv hx
      obtain ⟨al, -, an⟩ := Hac.out wr HEw.out
      go_upto_region 7 with fail
      refine wp_region_line [(0,0),(1,0),(2,0),(3,0),(4,1),(5,2),(6,3)] (by kernel_rfl) (by kernel_rfl) (Ext wr) (fun _ _ h k => h.trans k) (Ext.refl _) ?_
      iterate 4
        first
          | refine Fx.skip rfl rfl (by simp only [List.set_cons_zero, List.set_cons_succ]; rfl) ?_
          | (with_reducible refine Fx.lab0 ?_
             first
               | refine Fx.moveT rfl rfl rfl (by simp only [List.set_cons_zero, List.set_cons_succ]; rfl) ?_
               | refine Fx.assignT rfl rfl rfl (by simp only [List.set_cons_zero, List.set_cons_succ]; rfl) ?_
               | refine Fx.pure_ rfl rfl (fun _ => by go_simp; first | done | rfl) (by simp only [List.set_cons_zero, List.set_cons_succ]; rfl) ?_)
          | (with_reducible refine Fx.lab1 ?_
             refine Fx.look rfl rfl (fun w' hC => by obtain ⟨hc, hf, hl⟩ := Ext.cells hC; go_simp; rfl) (by simp only [List.set_cons_zero, List.set_cons_succ]; rfl) ?_)
      refine Fx.look rfl rfl (op_load_Nb' (m := x) al an rfl) (by simp only [List.set_cons_zero, List.set_cons_succ]; rfl) ?_
      refine Fx.mkPtr (fun B w' => wr.heap.size ≤ B ∧ Obj_ w' B 5 (nbF nb0)) (fun B _ _ h k => ⟨h.1, h.2.ext k⟩) rfl rfl (fun w' hC => stepAt_alloc_Nb hC) (fun B9 => ?_)
      simp only [List.set_cons_zero, List.set_cons_succ]
      refine Fx.eff0 (NbPre wr B9 x) (nbPre_stable _ _ _) rfl rfl (fun w' hC => stepAt_mono (stepAt_store_Nb hC.1 hC.2.1 hC.2.2 x rfl rfl) (fun _ w'' h => ⟨h.1, hC.2.1, h.2⟩)) ?_
      refine Fx.done (fun w7 hC => ?_)
      have HE7 := Lib.hid hC.1
      have HB9 := Lib.hid hC.2.1
      have HO7 := Lib.hid hC.2.2
      clear hC al an
      obtain ⟨m0, m1, m2⟩ := HO7.out.nb.ms
      have nl := HO7.out.lt
      obtain ⟨y, hy⟩ : ∃ y : Nb, (⟨x.e, x.n, cutM x.m⟩ : Nb) = y := ⟨_, rfl⟩
      have Hy := Lib.hid hy
      clear hy
      go_upto_region 8 with fail
      refine wp_region_line [(0,0),(1,1),(2,1),(3,0),(4,3)] (by kernel_rfl) (by kernel_rfl) (Ext w7) (fun _ _ h k => h.trans k) (Ext.refl _) ?_
      first
        | refine Fx.skip rfl rfl (by simp only [List.set_cons_zero, List.set_cons_succ]; rfl) ?_
        | (with_reducible refine Fx.lab0 ?_
           first
             | refine Fx.moveT rfl rfl rfl (by simp only [List.set_cons_zero, List.set_cons_succ]; rfl) ?_
             | refine Fx.assignT rfl rfl rfl (by simp only [List.set_cons_zero, List.set_cons_succ]; rfl) ?_
             | refine Fx.pure_ rfl rfl (fun _ => by go_simp; first | done | rfl) (by simp only [List.set_cons_zero, List.set_cons_succ]; rfl) ?_)
        | (with_reducible refine Fx.lab1 ?_
           refine Fx.look rfl rfl (fun w' hC => by obtain ⟨hc, hf, hl⟩ := Ext.cells hC; go_simp; rfl) (by simp only [List.set_cons_zero, List.set_cons_succ]; rfl) ?_)
      refine Fx.look rfl rfl (op_load_Ms' (m := x.m) nl m0 m1 m2 rfl) (by simp only [List.set_cons_zero, List.set_cons_succ]; rfl) ?_
      refine Fx.call1 (v := (cutM x.m).val) (args := #[x.m.val]) rfl rfl (fun _ => by first | (go_simp; done) | (go_simp; rfl)) (fun w' hC => small_at x.m w') (by simp only [List.set_cons_zero, List.set_cons_succ]; rfl) ?_
      first
        | refine Fx.skip rfl rfl (by simp only [List.set_cons_zero, List.set_cons_succ]; rfl) ?_
        | (with_reducible refine Fx.lab0 ?_
           first
             | refine Fx.moveT rfl rfl rfl (by simp only [List.set_cons_zero, List.set_cons_succ]; rfl) ?_
             | refine Fx.assignT rfl rfl rfl (by simp only [List.set_cons_zero, List.set_cons_succ]; rfl) ?_
             | refine Fx.pure_ rfl rfl (fun _ => by go_simp; first | done | rfl) (by simp only [List.set_cons_zero, List.set_cons_succ]; rfl) ?_)
        | (with_reducible refine Fx.lab1 ?_
           refine Fx.look rfl rfl (fun w' hC => by obtain ⟨hc, hf, hl⟩ := Ext.cells hC; go_simp; rfl) (by simp only [List.set_cons_zero, List.set_cons_succ]; rfl) ?_)
      refine Fx.eff0 (fun w' => Ext wr w' ∧ Obj_ w' B9 5 (nbF y)) (fun _ _ h k => ⟨h.1.trans k, h.2.ext k⟩) rfl rfl (fun w' hC => stepAt_mono (stepAt_store_Mn (HO7.out.ext hC) (cutM x.m) rfl rfl) (fun _ w'' hh => ?_)) ?_
      · rw [Hy.out] at hh
        exact ⟨(((HE7.out.trans hC).mods (· = B9)).trans hh.1 (fun _ _ h => h)).ext_of (fun z hz e => by have := HB9.out; omega), hh.2⟩
      refine Fx.done (fun w8 hC => ?_)
      have HW8 := Lib.hid (hW.out.ext hC.1)
      have HE8 := Lib.hid (HEw.out.trans hC.1)
      have HO8 := Lib.hid hC.2
      have HB9f : Hid (∀ z, z < wr.heap.size → B9 ≠ z) := Lib.hid (fun z hz e => by have := HB9.out; omega)
      have HNf : Hid (¬ FF c mw mb B9 ∧ ¬ FR r wv bv B9) := Lib.hid ⟨fun h => by have := hW.out.f.p.lt h; have := HB9.out; omega, fun h => by have := hW.out.g.lt h; have := HB9.out; omega⟩
      clear hC m0 m1 m2 nl HE7 HO7 hW HB9 HB9f HEw
      obtain ⟨al, am, -⟩ := Hac.out w8 HE8.out
      have n0 := HO8.out.nb.c0
      have nl := HO8.out.lt
      obtain ⟨ye, hye⟩ : ∃ ye, y.e = ye := ⟨_, rfl⟩
      have Hye := Lib.hid hye
      rw [hye] at n0
      clear hye
      obtain ⟨u1, u2, u3, u4, u5⟩ := hI.out.wl (by omega)
      have HU : Hid (σ.wt.length ≤ 999999 ∧ σ.bf.length ≤ 999999 ∧ (σ.bf.map (·.1)).Nodup) := Lib.hid ⟨by omega, by omega, u5⟩
      have HV : Hid (τ.wt.length ≤ 99999 ∧ τ.bf.length ≤ 99999 ∧ τ.bf.length ≤ 64) := Lib.hid ⟨by omega, by omega, by omega⟩
      clear u1 u2 u3 u4 u5
      cases mv
      case' true =>
        obtain ⟨s1, s2, s3, s4⟩ := hI.out.move ye
        obtain ⟨E, hE⟩ : ∃ E, moveE σ ye = E := ⟨_, rfl⟩
        obtain ⟨X, hX⟩ : ∃ X, moveX σ ye = X := ⟨_, rfl⟩
        obtain ⟨xl, hxl⟩ : ∃ xl, X.length = xl := ⟨_, rfl⟩
        obtain ⟨σ', hσ'⟩ : ∃ σ', moveT σ ye = σ' := ⟨_, rfl⟩
        obtain ⟨τ', hτ'⟩ : ∃ τ', refMvS τ ye = τ' := ⟨_, rfl⟩
        rw [hE] at s1
        rw [hX] at s2 s4
        rw [hσ', hτ'] at s3
        have hE1 := Lib.hid hE
        have hE2 := Lib.hid s1
        have hX1 := Lib.hid hX
        have hX2 := Lib.hid s2
        have hS1 := Lib.hid hσ'
        have hS2 := Lib.hid hτ'
        have HI' := Lib.hid s3
        have HXl := Lib.hid hxl
        have HX4 := Lib.hid s4
        clear s1 s2 s3 s4 hE hX hxl hσ' hτ' hI
        go_upto_region 13 with fail
        refine wp_region_line [(0,0),(1,0),(2,1),(3,3),(4,0),(5,0),(6,0),(7,0),(8,0)] (by kernel_rfl) (by kernel_rfl) (Ext w8) (fun _ _ h k => h.trans k) (Ext.refl _) ?_
        iterate 3
          first
            | refine Fx.skip rfl rfl (by simp only [List.set_cons_zero, List.set_cons_succ]; rfl) ?_
            | (with_reducible refine Fx.lab0 ?_
               first
                 | refine Fx.moveT rfl rfl rfl (by simp only [List.set_cons_zero, List.set_cons_succ]; rfl) ?_
                 | refine Fx.assignT rfl rfl rfl (by simp only [List.set_cons_zero, List.set_cons_succ]; rfl) ?_
                 | refine Fx.pure_ rfl rfl (fun _ => by go_simp; first | done | rfl) (by simp only [List.set_cons_zero, List.set_cons_succ]; rfl) ?_)
            | (with_reducible refine Fx.lab1 ?_
               refine Fx.look rfl rfl (fun w' hC => by obtain ⟨hc, hf, hl⟩ := Ext.cells hC; go_simp; rfl) (by simp only [List.set_cons_zero, List.set_cons_succ]; rfl) ?_)
        refine Fx.effBy (β := Option Addr × Nat) (fun p => .tuple #[.slice p.1 xl p.2, .int .i64 E]) (fun p w' => FolW wb c mw mb σ' r wv bv τ w' ∧ Obj_ w' B9 5 (nbF y) ∧ OwnMs w' (.slice p.1 xl p.2) X ∧ ∀ z, Value.ownBlock (.slice p.1 xl p.2) = some z → ¬ FR r wv bv z) ⟨(none, 0)⟩ (fun _ _ _ h k => ⟨h.1.ext k, h.2.1.ext k, h.2.2.1.ext k, h.2.2.2⟩) rfl rfl (fun w' hC => ?_) (fun p => ?_)
        · unfold stepAt
          rw [show (execOp _ _).run Try.prog w' = .ok (.enter 12 #[.pointer (some ⟨c, 0, none⟩), .int .u32 ye]) w' from by first | (go_simp; done) | (go_simp; rfl)]
          refine (move_any (HW8.out.f.p.ext hC) HU.out.2.2 HU.out.2.1 ye).mono (fun e w'' hh => ?_)
          obtain ⟨nv, rfl, h1, h2, h3, h4⟩ := hh
          rw [hE1.out]
          rw [hX1.out] at h1
          rw [hS1.out] at h2
          obtain ⟨A, cap, rfl, -⟩ := h1.val
          rw [HXl.out] at h1 h4 ⊢
          exact ⟨_, rfl, (A, cap), rfl, (HW8.out.ext hC).fw h2 h3, (HO8.out.ext hC).mods h3 HNf.out.1, h1, fun z hz hf => by have := h4 z hz; have := (HW8.out.ext hC).g.lt hf; omega⟩
        simp only [List.set_cons_zero, List.set_cons_succ]
        iterate 5
          first
            | refine Fx.skip rfl rfl (by simp only [List.set_cons_zero, List.set_cons_succ]; rfl) ?_
            | (with_reducible refine Fx.lab0 ?_
               first
                 | refine Fx.moveT rfl rfl rfl (by simp only [List.set_cons_zero, List.set_cons_succ]; rfl) ?_
                 | refine Fx.assignT rfl rfl rfl (by simp only [List.set_cons_zero, List.set_cons_succ]; rfl) ?_
                 | refine Fx.pure_ rfl rfl (fun _ => by go_simp; first | done | rfl) (by simp only [List.set_cons_zero, List.set_cons_succ]; rfl) ?_)
            | (with_reducible refine Fx.lab1 ?_
               refine Fx.look rfl rfl (fun w' hC => by obtain ⟨hc, hf, hl⟩ := Ext.cells hC; go_simp; rfl) (by simp only [List.set_cons_zero, List.set_cons_succ]; rfl) ?_)
        refine Fx.done (fun w9 hC => ?_)
        have HC9 := Lib.hid hC
        clear hC n0 nl al am HW8 HO8
        have n0 := HC9.out.2.1.nb.c0
        have nl := HC9.out.2.1.lt
        rw [Hye.out] at n0
        go_upto_region 14 with fail
        refine wp_region_line [(0,0),(1,0),(2,1),(3,3),(4,0),(5,0),(6,0),(7,0),(8,0)] (by kernel_rfl) (by kernel_rfl) (Ext w9) (fun _ _ h k => h.trans k) (Ext.refl _) ?_
        iterate 3
          first
            | refine Fx.skip rfl rfl (by simp only [List.set_cons_zero, List.set_cons_succ]; rfl) ?_
            | (with_reducible refine Fx.lab0 ?_
               first
                 | refine Fx.moveT rfl rfl rfl (by simp only [List.set_cons_zero, List.set_cons_succ]; rfl) ?_
                 | refine Fx.assignT rfl rfl rfl (by simp only [List.set_cons_zero, List.set_cons_succ]; rfl) ?_
                 | refine Fx.pure_ rfl rfl (fun _ => by go_simp; first | done | rfl) (by simp only [List.set_cons_zero, List.set_cons_succ]; rfl) ?_)
            | (with_reducible refine Fx.lab1 ?_
               refine Fx.look rfl rfl (fun w' hC => by obtain ⟨hc, hf, hl⟩ := Ext.cells hC; go_simp; rfl) (by simp only [List.set_cons_zero, List.set_cons_succ]; rfl) ?_)
        refine Fx.effBy (β := (Option Addr × Nat) × (Value × Value)) (fun q => .tuple #[.slice q.1.1 xl q.1.2, .int .i64 E]) (fun q w' => FolW wb c mw mb σ' r q.2.1 q.2.2 τ' w' ∧ MsL w' (.slice p.1 xl p.2) X ∧ MsL w' (.slice q.1.1 xl q.1.2) X) ⟨((none, 0), (undef, undef))⟩ (fun _ _ _ h k => ⟨h.1.ext k, h.2.1.ext k, h.2.2.ext k⟩) rfl rfl (fun w' hC => ?_) (fun q => ?_)
        · unfold stepAt
          rw [show (execOp _ _).run Try.prog w' = .ok (.enter 13 #[.pointer (some ⟨r, 0, none⟩), .int .u32 ye]) w' from by first | (go_simp; done) | (go_simp; rfl)]
          refine (ref_move (HC9.out.1.g.ext hC) HV.out.2.2 ye).mono (fun e w'' hh => ?_)
          obtain ⟨nv, wv2, bv3, rfl, hk⟩ := hh
          rw [← hE2.out]
          rw [← hX2.out, hS2.out] at hk
          have h1 := hk.n
          obtain ⟨A, cap, rfl, -⟩ := h1.val
          have h5 := h1.sl Ms.len
          rw [HXl.out] at h5 hk ⊢
          exact ⟨_, rfl, ((A, cap), (wv2, bv3)), rfl, (HC9.out.1.ext hC).rf hk, ((HC9.out.2.2.1.ext hC).mods hk.m (fun z hz => HC9.out.2.2.2 z hz)).sl Ms.len, h5⟩
        simp only [List.set_cons_zero, List.set_cons_succ]
        iterate 5
          first
            | refine Fx.skip rfl rfl (by simp only [List.set_cons_zero, List.set_cons_succ]; rfl) ?_
            | (with_reducible refine Fx.lab0 ?_
               first
                 | refine Fx.moveT rfl rfl rfl (by simp only [List.set_cons_zero, List.set_cons_succ]; rfl) ?_
                 | refine Fx.assignT rfl rfl rfl (by simp only [List.set_cons_zero, List.set_cons_succ]; rfl) ?_
                 | refine Fx.pure_ rfl rfl (fun _ => by go_simp; first | done | rfl) (by simp only [List.set_cons_zero, List.set_cons_succ]; rfl) ?_)
            | (with_reducible refine Fx.lab1 ?_
               refine Fx.look rfl rfl (fun w' hC => by obtain ⟨hc, hf, hl⟩ := Ext.cells hC; go_simp; rfl) (by simp only [List.set_cons_zero, List.set_cons_succ]; rfl) ?_)
        refine Fx.done (fun w10 hC => ?_)
        have HC10 := Lib.hid hC
        clear hC n0 nl HC9 hE1 hE2 hX1 hX2 hS1 hS2
        go_upto_region 17 with fail
      case' false =>
        obtain ⟨s1, s2, s3, s4⟩ := hI.out.recv (by omega) y
        obtain ⟨E, hE⟩ : ∃ E, recvE σ y = E := ⟨_, rfl⟩
        obtain ⟨X, hX⟩ : ∃ X, recvL σ y = X := ⟨_, rfl⟩
        obtain ⟨xl, hxl⟩ : ∃ xl, X.length = xl := ⟨_, rfl⟩
        obtain ⟨σ', hσ'⟩ : ∃ σ', recvS σ y = σ' := ⟨_, rfl⟩
        obtain ⟨τ', hτ'⟩ : ∃ τ', refS τ y = τ' := ⟨_, rfl⟩
        rw [hE] at s1
        rw [hX] at s2 s4
        rw [hσ', hτ'] at s3
        have hE1 := Lib.hid hE
        have hE2 := Lib.hid s1
        have hX1 := Lib.hid hX
        have hX2 := Lib.hid s2
        have hS1 := Lib.hid hσ'
        have hS2 := Lib.hid hτ'
        have HI' := Lib.hid s3
        have HXl := Lib.hid hxl
        have HX4 := Lib.hid s4
        clear s1 s2 s3 s4 hE hX hxl hσ' hτ' hI n0
        have hN := HO8.out.nb
        go_upto_region 15 with fail
        refine wp_region_line [(0,0),(1,1),(2,3),(3,0),(4,0),(5,0),(6,0),(7,0)] (by kernel_rfl) (by kernel_rfl) (Ext w8) (fun _ _ h k => h.trans k) (Ext.refl _) ?_
        first
          | refine Fx.skip rfl rfl (by simp only [List.set_cons_zero, List.set_cons_succ]; rfl) ?_
          | (with_reducible refine Fx.lab0 ?_
             first
               | refine Fx.moveT rfl rfl rfl (by simp only [List.set_cons_zero, List.set_cons_succ]; rfl) ?_
               | refine Fx.assignT rfl rfl rfl (by simp only [List.set_cons_zero, List.set_cons_succ]; rfl) ?_
               | refine Fx.pure_ rfl rfl (fun _ => by go_simp; first | done | rfl) (by simp only [List.set_cons_zero, List.set_cons_succ]; rfl) ?_)
          | (with_reducible refine Fx.lab1 ?_
             refine Fx.look rfl rfl (fun w' hC => by obtain ⟨hc, hf, hl⟩ := Ext.cells hC; go_simp; rfl) (by simp only [List.set_cons_zero, List.set_cons_succ]; rfl) ?_)
        refine Fx.look rfl rfl (op_load_Nb' (m := y) nl hN rfl) (by simp only [List.set_cons_zero, List.set_cons_succ]; rfl) ?_
        refine Fx.effBy (β := Option Addr × Nat) (fun p => .tuple #[.slice p.1 xl p.2, .int .i64 E]) (fun p w' => FolW wb c mw mb σ' r wv bv τ w' ∧ Obj_ w' B9 5 (nbF y) ∧ OwnMs w' (.slice p.1 xl p.2) X ∧ ∀ z, Value.ownBlock (.slice p.1 xl p.2) = some z → ¬ FR r wv bv z) ⟨(none, 0)⟩ (fun _ _ _ h k => ⟨h.1.ext k, h.2.1.ext k, h.2.2.1.ext k, h.2.2.2⟩) rfl rfl (fun w' hC => ?_) (fun p => ?_)
        · unfold stepAt
          rw [show (execOp _ _).run Try.prog w' = .ok (.enter 14 #[.pointer (some ⟨c, 0, none⟩), y.val]) w' from by first | (go_simp; done) | (go_simp; rfl)]
          refine (recv_any (HW8.out.f.p.ext hC) HU.out.1 HU.out.2.1 y).mono (fun e w'' hh => ?_)
          obtain ⟨nv, rfl, h1, h2, h3, h4⟩ := hh
          rw [hE1.out]
          rw [hX1.out] at h1
          rw [hS1.out] at h2
          obtain ⟨A, cap, rfl, -⟩ := h1.val
          rw [HXl.out] at h1 h4 ⊢
          exact ⟨_, rfl, (A, cap), rfl, (HW8.out.ext hC).fw h2 h3, (HO8.out.ext hC).mods h3 HNf.out.1, h1, fun z hz hf => by have := h4 z hz; have := (HW8.out.ext hC).g.lt hf; omega⟩
        simp only [List.set_cons_zero, List.set_cons_succ]
        iterate 5
          first
            | refine Fx.skip rfl rfl (by simp only [List.set_cons_zero, List.set_cons_succ]; rfl) ?_
            | (with_reducible refine Fx.lab0 ?_
               first
                 | refine Fx.moveT rfl rfl rfl (by simp only [List.set_cons_zero, List.set_cons_succ]; rfl) ?_
                 | refine Fx.assignT rfl rfl rfl (by simp only [List.set_cons_zero, List.set_cons_succ]; rfl) ?_
                 | refine Fx.pure_ rfl rfl (fun _ => by go_simp; first | done | rfl) (by simp only [List.set_cons_zero, List.set_cons_succ]; rfl) ?_)
            | (with_reducible refine Fx.lab1 ?_
               refine Fx.look rfl rfl (fun w' hC => by obtain ⟨hc, hf, hl⟩ := Ext.cells hC; go_simp; rfl) (by simp only [List.set_cons_zero, List.set_cons_succ]; rfl) ?_)
        refine Fx.done (fun w9 hC => ?_)
        have HC9 := Lib.hid hC
        clear hC hN nl al am HW8 HO8
        have hN := HC9.out.2.1.nb
        have nl := HC9.out.2.1.lt
        go_upto_region 16 with fail
        refine wp_region_line [(0,0),(1,1),(2,3),(3,0),(4,0),(5,0),(6,0),(7,0)] (by kernel_rfl) (by kernel_rfl) (Ext w9) (fun _ _ h k => h.trans k) (Ext.refl _) ?_
        first
          | refine Fx.skip rfl rfl (by simp only [List.set_cons_zero, List.set_cons_succ]; rfl) ?_
          | (with_reducible refine Fx.lab0 ?_
             first
               | refine Fx.moveT rfl rfl rfl (by simp only [List.set_cons_zero, List.set_cons_succ]; rfl) ?_
               | refine Fx.assignT rfl rfl rfl (by simp only [List.set_cons_zero, List.set_cons_succ]; rfl) ?_
               | refine Fx.pure_ rfl rfl (fun _ => by go_simp; first | done | rfl) (by simp only [List.set_cons_zero, List.set_cons_succ]; rfl) ?_)
          | (with_reducible refine Fx.lab1 ?_
             refine Fx.look rfl rfl (fun w' hC => by obtain ⟨hc, hf, hl⟩ := Ext.cells hC; go_simp; rfl) (by simp only [List.set_cons_zero, List.set_cons_succ]; rfl) ?_)
        refine Fx.look rfl rfl (op_load_Nb' (m := y) nl hN rfl) (by simp only [List.set_cons_zero, List.set_cons_succ]; rfl) ?_
        refine Fx.effBy (β := (Option Addr × Nat) × (Value × Value)) (fun q => .tuple #[.slice q.1.1 xl q.1.2, .int .i64 E]) (fun q w' => FolW wb c mw mb σ' r q.2.1 q.2.2 τ' w' ∧ MsL w' (.slice p.1 xl p.2) X ∧ MsL w' (.slice q.1.1 xl q.1.2) X) ⟨((none, 0), (undef, undef))⟩ (fun _ _ _ h k => ⟨h.1.ext k, h.2.1.ext k, h.2.2.ext k⟩) rfl rfl (fun w' hC => ?_) (fun q => ?_)
        · unfold stepAt
          rw [show (execOp _ _).run Try.prog w' = .ok (.enter 15 #[.pointer (some ⟨r, 0, none⟩), y.val]) w' from by first | (go_simp; done) | (go_simp; rfl)]
          refine (ref_recv (HC9.out.1.g.ext hC) HV.out.1 HV.out.2.1 y).mono (fun e w'' hh => ?_)
          obtain ⟨nv, wv2, bv3, rfl, hk⟩ := hh
          rw [← hE2.out]
          rw [← hX2.out, hS2.out] at hk
          have h1 := hk.n
          obtain ⟨A, cap, rfl, -⟩ := h1.val
          have h5 := h1.sl Ms.len
          rw [HXl.out] at h5 hk ⊢
          exact ⟨_, rfl, ((A, cap), (wv2, bv3)), rfl, (HC9.out.1.ext hC).rf hk, ((HC9.out.2.2.1.ext hC).mods hk.m (fun z hz => HC9.out.2.2.2 z hz)).sl Ms.len, h5⟩
        simp only [List.set_cons_zero, List.set_cons_succ]
        iterate 5
          first
            | refine Fx.skip rfl rfl (by simp only [List.set_cons_zero, List.set_cons_succ]; rfl) ?_
            | (with_reducible refine Fx.lab0 ?_
               first
                 | refine Fx.moveT rfl rfl rfl (by simp only [List.set_cons_zero, List.set_cons_succ]; rfl) ?_
                 | refine Fx.assignT rfl rfl rfl (by simp only [List.set_cons_zero, List.set_cons_succ]; rfl) ?_
                 | refine Fx.pure_ rfl rfl (fun _ => by go_simp; first | done | rfl) (by simp only [List.set_cons_zero, List.set_cons_succ]; rfl) ?_)
            | (with_reducible refine Fx.lab1 ?_
               refine Fx.look rfl rfl (fun w' hC => by obtain ⟨hc, hf, hl⟩ := Ext.cells hC; go_simp; rfl) (by simp only [List.set_cons_zero, List.set_cons_succ]; rfl) ?_)
        refine Fx.done (fun w10 hC => ?_)
        have HC10 := Lib.hid hC
        clear hC hN nl HC9 hE1 hE2 hX1 hX2 hS1 hS2
        go_upto_region 17 with fail
      all_goals
        obtain ⟨M, hM⟩ : ∃ M, marksL σ' = M := ⟨_, rfl⟩
        have hM2 : marksL τ' = M := by rw [← HI'.out.marks]; exact hM
        have hM4 : M.length ≤ 1000000 := by rw [← hM]; show 4 ≤ 1000000; omega
        have HM1 := Lib.hid hM
        have HM2 := Lib.hid hM2
        have HM4 := Lib.hid hM4
        clear hM hM2 hM4
        refine wp_region_line [(0,0),(1,0),(2,0),(3,0),(4,0),(5,0),(6,1),(7,0),(8,0),(9,0),(10,0),(11,2),(12,0),(13,2),(14,1),(15,0),(16,0)] (by kernel_rfl) (by kernel_rfl) (Ext w10) (fun _ _ h k => h.trans k) (Ext.refl _) ?_
        iterate 2
          first
            | refine Fx.skip rfl rfl (by simp only [List.set_cons_zero, List.set_cons_succ]; rfl) ?_
            | (with_reducible refine Fx.lab0 ?_
               first
                 | refine Fx.moveT rfl rfl rfl (by simp only [List.set_cons_zero, List.set_cons_succ]; rfl) ?_
                 | refine Fx.assignT rfl rfl rfl (by simp only [List.set_cons_zero, List.set_cons_succ]; rfl) ?_
                 | refine Fx.pure_ rfl rfl (fun _ => by go_simp; first | done | rfl) (by simp only [List.set_cons_zero, List.set_cons_succ]; rfl) ?_)
            | (with_reducible refine Fx.lab1 ?_
               refine Fx.look rfl rfl (fun w' hC => by obtain ⟨hc, hf, hl⟩ := Ext.cells hC; go_simp; rfl) (by simp only [List.set_cons_zero, List.set_cons_succ]; rfl) ?_)
        refine Fx.pure_ (v := .bool false) rfl rfl (fun _ => by first | (go_simp; done) | (go_simp; rfl)) (by simp only [List.set_cons_zero, List.set_cons_succ]; rfl) ?_
        iterate 3
          first
            | refine Fx.skip rfl rfl (by simp only [List.set_cons_zero, List.set_cons_succ]; rfl) ?_
            | (with_reducible refine Fx.lab0 ?_
               first
                 | refine Fx.moveT rfl rfl rfl (by simp only [List.set_cons_zero, List.set_cons_succ]; rfl) ?_
                 | refine Fx.assignT rfl rfl rfl (by simp only [List.set_cons_zero, List.set_cons_succ]; rfl) ?_
                 | refine Fx.pure_ rfl rfl (fun _ => by go_simp; first | done | rfl) (by simp only [List.set_cons_zero, List.set_cons_succ]; rfl) ?_)
            | (with_reducible refine Fx.lab1 ?_
               refine Fx.look rfl rfl (fun w' hC => by obtain ⟨hc, hf, hl⟩ := Ext.cells hC; go_simp; rfl) (by simp only [List.set_cons_zero, List.set_cons_succ]; rfl) ?_)
        refine Fx.call1 (v := .bool true) (args := #[.slice p.1 xl p.2, .slice q.1.1 xl q.1.2]) rfl rfl (fun _ => by first | (go_simp; done) | (go_simp; rfl)) (fun w' hC => (same_ref _ _ X X w' (HC10.out.2.1.ext hC) (HC10.out.2.2.ext hC) (Nat.le_trans HX4.out (by decide))).mono (fun e w'' hh => by rw [show sameB X X = true by simp [sameB]] at hh; exact hh)) (by simp only [List.set_cons_zero, List.set_cons_succ]; rfl) ?_
        iterate 4
          first
            | refine Fx.skip rfl rfl (by simp only [List.set_cons_zero, List.set_cons_succ]; rfl) ?_
            | (with_reducible refine Fx.lab0 ?_
               first
                 | refine Fx.moveT rfl rfl rfl (by simp only [List.set_cons_zero, List.set_cons_succ]; rfl) ?_
                 | refine Fx.assignT rfl rfl rfl (by simp only [List.set_cons_zero, List.set_cons_succ]; rfl) ?_
                 | refine Fx.pure_ rfl rfl (fun _ => by go_simp; first | done | rfl) (by simp only [List.set_cons_zero, List.set_cons_succ]; rfl) ?_)
            | (with_reducible refine Fx.lab1 ?_
               refine Fx.look rfl rfl (fun w' hC => by obtain ⟨hc, hf, hl⟩ := Ext.cells hC; go_simp; rfl) (by simp only [List.set_cons_zero, List.set_cons_succ]; rfl) ?_)
        refine Fx.mkBy (fun B : Nat => .slice (some ⟨B, 0, none⟩) 4 4) (fun B w' => UL w' (.slice (some ⟨B, 0, none⟩) 4 4) M) (fun _ _ _ h k => h.ext k) rfl rfl (fun w' hC => ?_) (fun B => ?_)
        · unfold stepAt
          rw [show (execOp _ _).run Try.prog w' = .ok (.enter 18 #[.pointer (some ⟨c, 0, none⟩)]) w' from by first | (go_simp; done) | (go_simp; rfl)]
          refine (marks_at (HC10.out.1.f.p.ext hC)).mono (fun e w'' hh => ?_)
          obtain ⟨⟨B, rfl, h0, h1⟩, h2⟩ := hh
          rw [HM1.out] at h1
          exact ⟨_, rfl, B, rfl, h2, h1⟩
        simp only [List.set_cons_zero, List.set_cons_succ]
        first
          | refine Fx.skip rfl rfl (by simp only [List.set_cons_zero, List.set_cons_succ]; rfl) ?_
          | (with_reducible refine Fx.lab0 ?_
             first
               | refine Fx.moveT rfl rfl rfl (by simp only [List.set_cons_zero, List.set_cons_succ]; rfl) ?_
               | refine Fx.assignT rfl rfl rfl (by simp only [List.set_cons_zero, List.set_cons_succ]; rfl) ?_
               | refine Fx.pure_ rfl rfl (fun _ => by go_simp; first | done | rfl) (by simp only [List.set_cons_zero, List.set_cons_succ]; rfl) ?_)
          | (with_reducible refine Fx.lab1 ?_
             refine Fx.look rfl rfl (fun w' hC => by obtain ⟨hc, hf, hl⟩ := Ext.cells hC; go_simp; rfl) (by simp only [List.set_cons_zero, List.set_cons_succ]; rfl) ?_)
        refine Fx.mkBy (fun B : Nat => .slice (some ⟨B, 0, none⟩) 4 4) (fun B w' => UL w' (.slice (some ⟨B, 0, none⟩) 4 4) M) (fun _ _ _ h k => h.ext k) rfl rfl (fun w' hC => ?_) (fun B2 => ?_)
        · unfold stepAt
          rw [show (execOp _ _).run Try.prog w' = .ok (.enter 19 #[.pointer (some ⟨r, 0, none⟩)]) w' from by first | (go_simp; done) | (go_simp; rfl)]
          refine (marks_ref (HC10.out.1.g.ext hC.1)).mono (fun e w'' hh => ?_)
          obtain ⟨⟨B, rfl, h1⟩, h2⟩ := hh
          rw [HM2.out] at h1
          exact ⟨_, rfl, B, rfl, h2, h1⟩
        simp only [List.set_cons_zero, List.set_cons_succ]
        refine Fx.call1 (v := .bool true) (args := #[.slice (some ⟨B, 0, none⟩) 4 4, .slice (some ⟨B2, 0, none⟩) 4 4]) rfl rfl (fun _ => by first | (go_simp; done) | (go_simp; rfl)) (fun w' hC => same_marks M hC.1.2 hC.2 HM4.out) (by simp only [List.set_cons_zero, List.set_cons_succ]; rfl) ?_
        iterate 2
          first
            | refine Fx.skip rfl rfl (by simp only [List.set_cons_zero, List.set_cons_succ]; rfl) ?_
            | (with_reducible refine Fx.lab0 ?_
               first
                 | refine Fx.moveT rfl rfl rfl (by simp only [List.set_cons_zero, List.set_cons_succ]; rfl) ?_
                 | refine Fx.assignT rfl rfl rfl (by simp only [List.set_cons_zero, List.set_cons_succ]; rfl) ?_
                 | refine Fx.pure_ rfl rfl (fun _ => by go_simp; first | done | rfl) (by simp only [List.set_cons_zero, List.set_cons_succ]; rfl) ?_)
            | (with_reducible refine Fx.lab1 ?_
               refine Fx.look rfl rfl (fun w' hC => by obtain ⟨hc, hf, hl⟩ := Ext.cells hC; go_simp; rfl) (by simp only [List.set_cons_zero, List.set_cons_succ]; rfl) ?_)
        refine Fx.done (fun w11 hC => ?_)
        have HW11 := Lib.hid (HC10.out.1.ext hC.1.1)
        clear hC HC10
        go_wp2
        go_roundw
        case rel => exact ⟨k + 1, σ', τ', _, _, by go_num, by omega, by omega, HW11, HI'⟩
        case measure => simp [intOf]; omega
    all_goals
      first
        | (have hd1 : decide ((k : Int) < (L.length : Int)) = true := by (apply decide_eq_true; omega)
           have hd2 : decide ((k : Int) < 100) = false := by (apply decide_eq_false; omega))
        | (have hd1 : decide ((k : Int) < (L.length : Int)) = false := by (apply decide_eq_false; omega))
      go_wp2
      go_ret
      exact ⟨rfl, Hb.out.trans hW.out.f.e⟩
end Go.Proofs.Ytokljdkeegdniaa
