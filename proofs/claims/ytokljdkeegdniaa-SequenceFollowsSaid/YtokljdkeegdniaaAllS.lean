/-
  sequence.Sequencer.All; Number of what is no message; rostrumlaw11.small.
-/
import Derived.Test.YtokljdkeegdniaaNoneS
import Derived.Lib.MinMax
namespace Go.Proofs.Ytokljdkeegdniaa
open Go.RowKit
attribute [local go_sem] Oper.semAt_some

def CloneN (w : World) (l : List Nb) (e : Ending) (w' : World) : Prop := ∃ v', e = .returned v' ∧ OwnNb w' v' l ∧ Ext w w' ∧ ∀ b, v'.ownBlock = some b → w.heap.size ≤ b
theorem clone_nb (v : Value) (l : List Nb) (w : World) (hl : NbL w v l) (hlen : l.length ≤ 1073741824) :
    Calls Try.prog 36 #[v] w (CloneN w l) := by
  obtain ⟨A, cap, rfl, hc1, hc2⟩ := hl.val
  have hE := Lib.hid (Ext.alloc w (.cells #[] 36))
  have hemp : OwnNb (w.alloc (.cells #[] 36)) (.slice (some ⟨w.heap.size, 0, none⟩) 0 0) [] := Own.empty w
  obtain ⟨v', w1, hr, ho, hm, hb⟩ := hemp.append (ty := 28) (hl.ext hE.out) (by simpa using hlen)
  have hne : ∀ w, (binOp .eql 28 (.slice A l.length cap) (.slice none 0 0)).run Try.prog w = .ok (.bool A.isNone) w := fun w => by
    exact Lib.run_eql_slice_nil w _ _ _ _ _ _ _ Try.underlying28
  cases A with
  | none =>
    have hnil : l = [] := by
      obtain ⟨A', c', e, _, _, h⟩ := hl
      refine Classical.byContradiction fun hne => ?_
      obtain ⟨b, off, e2, _⟩ := h hne
      injection e with e
      rw [e2] at e; cases e
    clear hr ho hm hb hemp hl
    have Hn := Lib.hid hnil
    clear hnil
    have hne1 := hne
    simp only [Option.isNone_none] at hne1
    clear hne
    go_enter Try.func36, Try.ntmps36
    go_wp2
    go_ret
    refine ⟨.slice none 0 0, rfl, ?_, Ext.refl _, fun b hb => by simp [Value.ownBlock] at hb⟩
    rw [Hn.out]; exact Own.nil
  | some a =>
    have Ho := Lib.hid ho
    have Hm := Lib.hid hm
    have Hb := Lib.hid hb
    clear ho hm hb hemp hl
    have hne1 := hne
    simp only [Option.isNone_some] at hne1
    clear hne
    go_enter Try.func36, Try.ntmps36
    have Hr := Lib.hid hr
    clear hr
    go_wp2_with (at_builtin; refine wpList_append_run rfl _ _ _ rfl Hr.out ?_)
    go_ret
    refine ⟨v', rfl, by simpa using Ho.out, ?_, fun b hb => ?_⟩
    · have h1 := (hE.out.mods (fun b => w.heap.size = b)).trans Hm.out (fun x _ hx => by simpa [Value.ownBlock] using hx)
      exact h1.ext_of (fun x hx he => by omega)
    · rcases Hb.out b hb with h | h
      · simp [Value.ownBlock] at h; omega
      · simp at h; omega

theorem all_at {w : World} {b mn : Nat} {av : Value} {σ : SqSt} (h : SqAt w b mn av σ) (hlen : σ.all.length ≤ 1000000) : Calls Try.prog 24 #[.pointer (some ⟨b, 0, none⟩)] w (CloneN w σ.all) := by
  have H := Lib.hid h
  have hL := Lib.hid (h.all.sl Nb.len)
  obtain ⟨c0, c1, c2, lb⟩ := h.cells
  obtain ⟨A, cap, rfl, -⟩ := h.all.val
  clear h c0 c1
  have Hlen := Lib.hid hlen
  clear hlen
  go_enter Try.func24, Try.ntmps24
  go_wp2_with (first
    | (go_at_call 35; refine (sqNil_at H.out).mono ?_; rintro e w2 ⟨rfl, rfl⟩)
    | (go_at_call 36; refine (clone_nb _ σ.all _ hL.out (Nat.le_trans Hlen.out (by decide))).mono ?_; rintro e w' ⟨v', rfl, h⟩))
  go_ret
  exact ⟨v', rfl, h⟩
set_option maxRecDepth 100000 in
set_option maxHeartbeats 3200000 in
theorem num_bad {w : World} {b mn : Nat} {av : Value} {σ : SqSt} (h : SqAt w b mn av σ) (m : Ms) (hr : rightB m = false) : Calls Try.prog 23 #[.pointer (some ⟨b, 0, none⟩), m.val] w fun e w' => e = .returned (.tuple #[nb0.val, .int .i64 100]) ∧ Ext w w' := by
  have H := Lib.hid h
  have Hr := Lib.hid hr
  clear h hr
  go_enter Try.func23, Try.ntmps23
  go_upto_region 0 with fail
  refine wp_region_line [(0,2),(1,2),(2,0)] (by kernel_rfl) (by kernel_rfl) (Ext w) (fun _ _ h k => h.trans k) (Ext.refl _) ?_
  refine Fx.mkPtr (fun B w' => w.heap.size ≤ B ∧ Obj_ w' B 3 (msF m)) (fun B _ _ h k => ⟨h.1, h.2.ext k⟩) rfl rfl (fun w' hC => stepAt_box_Ms hC m rfl) (fun Bm => ?_)
  simp only [List.set_cons_zero, List.set_cons_succ]
  refine Fx.mkPtr (fun B w' => w.heap.size ≤ B ∧ Obj_ w' B 5 (nbF nb0)) (fun B _ _ h k => ⟨h.1, h.2.ext k⟩) rfl rfl (fun w' hC => stepAt_alloc_Nb hC.1) (fun B4 => ?_)
  simp only [List.set_cons_zero, List.set_cons_succ]
  first
    | refine Fx.skip rfl rfl (by simp only [List.set_cons_zero, List.set_cons_succ]; rfl) ?_
    | (with_reducible refine Fx.lab0 ?_
       first
         | refine Fx.moveT rfl rfl rfl (by simp only [List.set_cons_zero, List.set_cons_succ]; rfl) ?_
         | refine Fx.assignT rfl rfl rfl (by simp only [List.set_cons_zero, List.set_cons_succ]; rfl) ?_
         | refine Fx.pure_ rfl rfl (fun _ => by go_simp; first | done | rfl) (by simp only [List.set_cons_zero, List.set_cons_succ]; rfl) ?_)
    | (with_reducible refine Fx.lab1 ?_
       refine Fx.look rfl rfl (fun w' hC => by obtain ⟨hc, hf, hl⟩ := Ext.cells hC; go_simp; rfl) (by simp only [List.set_cons_zero, List.set_cons_succ]; rfl) ?_)
  refine Fx.done (fun w1 hC => ?_)
  obtain ⟨⟨hE1, hBm, hOm⟩, hB, hO⟩ := hC
  have HE1 := Lib.hid hE1
  have HO := Lib.hid hO
  have HB := Lib.hid hB
  have H1 := Lib.hid (H.out.ext hE1)
  obtain ⟨d0, d1, d2⟩ := hOm.ms
  have dl := hOm.lt
  clear hE1 hO hB hOm hBm
  go_upto_region 3 with (go_at_call 35; refine (sqNil_at H1.out).mono ?_; rintro e w2 ⟨rfl, rfl⟩)
  refine wp_region_line [(0,1),(1,1),(2,0)] (by kernel_rfl) (by kernel_rfl) (Ext w2) (fun _ _ h k => h.trans k) (Ext.refl _) ?_
  refine Fx.look rfl rfl (op_load_Ms' (m := m) dl d0 d1 d2 rfl) (by simp only [List.set_cons_zero, List.set_cons_succ]; rfl) ?_
  refine Fx.call1 (v := .bool false) (args := #[m.val]) rfl rfl (fun _ => by first | (go_simp; done) | (go_simp; rfl)) (fun w' hC => (right_ids m w').mono (fun e w'' hh => by rw [Hr.out] at hh; exact hh)) (by simp only [List.set_cons_zero, List.set_cons_succ]; rfl) ?_
  first
    | refine Fx.skip rfl rfl (by simp only [List.set_cons_zero, List.set_cons_succ]; rfl) ?_
    | (with_reducible refine Fx.lab0 ?_
       first
         | refine Fx.moveT rfl rfl rfl (by simp only [List.set_cons_zero, List.set_cons_succ]; rfl) ?_
         | refine Fx.assignT rfl rfl rfl (by simp only [List.set_cons_zero, List.set_cons_succ]; rfl) ?_
         | refine Fx.pure_ rfl rfl (fun _ => by go_simp; first | done | rfl) (by simp only [List.set_cons_zero, List.set_cons_succ]; rfl) ?_)
    | (with_reducible refine Fx.lab1 ?_
       refine Fx.look rfl rfl (fun w' hC => by obtain ⟨hc, hf, hl⟩ := Ext.cells hC; go_simp; rfl) (by simp only [List.set_cons_zero, List.set_cons_succ]; rfl) ?_)
  refine Fx.done (fun w3 hC => ?_)
  have HE3 := Lib.hid (HE1.out.trans hC)
  have HO3 := Lib.hid (HO.out.ext hC)
  clear hC d0 d1 d2 dl
  go_upto_region 4 with fail
  refine wp_region_line [(0,0),(1,3),(2,0)] (by kernel_rfl) (by kernel_rfl) (Ext w3) (fun _ _ h k => h.trans k) (Ext.refl _) ?_
  refine Fx.pure_ (v := nb0.val) rfl rfl (fun _ => by unfold Nb.val nb0 ms0; first | (go_simp; done) | (go_simp; rfl)) (by simp only [List.set_cons_zero, List.set_cons_succ]; rfl) ?_
  refine Fx.eff0 (fun w' => Ext w w' ∧ Obj_ w' B4 5 (nbF nb0)) (fun _ _ h k => ⟨h.1.trans k, h.2.ext k⟩) rfl rfl (fun w' hC => stepAt_store_Nb (HE3.out.trans hC) HB.out (HO3.out.ext hC) nb0 rfl rfl) ?_
  first
    | refine Fx.skip rfl rfl (by simp only [List.set_cons_zero, List.set_cons_succ]; rfl) ?_
    | (with_reducible refine Fx.lab0 ?_
       first
         | refine Fx.moveT rfl rfl rfl (by simp only [List.set_cons_zero, List.set_cons_succ]; rfl) ?_
         | refine Fx.assignT rfl rfl rfl (by simp only [List.set_cons_zero, List.set_cons_succ]; rfl) ?_
         | refine Fx.pure_ rfl rfl (fun _ => by go_simp; first | done | rfl) (by simp only [List.set_cons_zero, List.set_cons_succ]; rfl) ?_)
    | (with_reducible refine Fx.lab1 ?_
       refine Fx.look rfl rfl (fun w' hC => by obtain ⟨hc, hf, hl⟩ := Ext.cells hC; go_simp; rfl) (by simp only [List.set_cons_zero, List.set_cons_succ]; rfl) ?_)
  refine Fx.done (fun w4 hC => ?_)
  have HC := Lib.hid hC
  clear hC
  go_wp2
  exact bodyPost_ret (v := .tuple #[nb0.val, .int .i64 100]) (res_num rfl rfl HC.out.2) rfl ⟨rfl, HC.out.1⟩
/-- Number, whatever the message. -/
def numE (m : Ms) : Int := if rightB m then 0 else 100
def numX2 (σ : SqSt) (m : Ms) : Nb := if rightB m then numX σ m else nb0
def numS2 (σ : SqSt) (m : Ms) : SqSt := if rightB m then numS σ m else σ
def NumR2 (w : World) (b mn : Nat) (av : Value) (σ : SqSt) (m : Ms) (e : Ending) (w' : World) : Prop :=
  ∃ av', e = .returned (.tuple #[(numX2 σ m).val, .int .i64 (numE m)]) ∧ SqAt w' b mn av' (numS2 σ m) ∧ Mods (FQ b mn av) w w' ∧ ∀ x, av'.ownBlock = some x → av.ownBlock = some x ∨ w.heap.size ≤ x
theorem num_any {w : World} {b mn : Nat} {av : Value} {σ : SqSt} (h : SqAt w b mn av σ) (hO : σ.Ok) (hl9 : σ.all.length ≤ 999999) (m : Ms) : Calls Try.prog 23 #[.pointer (some ⟨b, 0, none⟩), m.val] w (NumR2 w b mn av σ m) := by
  cases hr : rightB m with
  | true =>
    refine (num_at h hO hl9 m hr).mono (fun e w' hh => ?_)
    obtain ⟨av', h1, h2, h3, h4⟩ := hh
    refine ⟨av', ?_, ?_, h3, h4⟩
    · unfold numX2 numE; rw [hr]; exact h1
    · unfold numS2; rw [hr]; exact h2
  | false =>
    refine (num_bad h m hr).mono (fun e w' hh => ?_)
    refine ⟨av, ?_, ?_, hh.2.mods _, fun _ h => .inl h⟩
    · unfold numX2 numE; rw [hr]; exact hh.1
    · unfold numS2; rw [hr]; exact h.ext hh.2
theorem numS2_ok {σ : SqSt} (h : σ.Ok) (hl : σ.all.length ≤ 999999) (m : Ms) : (numS2 σ m).Ok := by
  unfold numS2; split
  · exact numS_ok h hl m
  · exact h
/-! ### small -/
def cutM (m : Ms) : Ms := { m with d := m.d.extract 0 (min m.d.size 1100) }
set_option maxRecDepth 100000 in
set_option maxHeartbeats 3200000 in
theorem small_at (m : Ms) (w : World) : Calls Try.prog 11 #[m.val] w fun e w' => e = .returned (cutM m).val ∧ Ext w w' := by
  obtain ⟨mn, hmn⟩ : ∃ mn, min m.d.size 1100 = mn := ⟨_, rfl⟩
  have hmi : min (m.d.size : Int) 1100 = (mn : Int) := by omega
  have hms : mn ≤ m.d.size := by omega
  have hmsI : (mn : Int) ≤ m.d.size := by omega
  have hcut : cutM m = ⟨m.f, m.c, m.d.extract 0 mn⟩ := by unfold cutM; rw [hmn]
  have Hcut := Lib.hid hcut
  clear hmn hcut
  go_enter Try.func11, Try.ntmps11
  go_upto_region 0 with fail
  refine wp_region_line [(0,2),(1,2)] (by kernel_rfl) (by kernel_rfl) (Ext w) (fun _ _ h k => h.trans k) (Ext.refl _) ?_
  refine Fx.mkPtr (fun B w' => w.heap.size ≤ B ∧ Obj_ w' B 3 (msF m)) (fun B _ _ h k => ⟨h.1, h.2.ext k⟩) rfl rfl (fun w' hC => stepAt_box_Ms hC m rfl) (fun B1 => ?_)
  simp only [List.set_cons_zero, List.set_cons_succ]
  refine Fx.mkPtr (fun B w' => w.heap.size ≤ B ∧ B1 < B ∧ Obj_ w' B 3 (msF ms0)) (fun B _ _ h k => ⟨h.1, h.2.1, h.2.2.ext k⟩) rfl rfl (fun w' hC => stepAt_mono (stepAt_alloc_Ms (Ext.refl w')) (fun u w'' hh => by
    obtain ⟨B, h1, h2, h3, h4⟩ := hh
    exact ⟨B, h1, h2, Nat.le_trans hC.1.size h3, Nat.lt_of_lt_of_le hC.2.2.lt h3, h4⟩)) (fun B2 => ?_)
  simp only [List.set_cons_zero, List.set_cons_succ]
  refine Fx.done (fun w1 hC => ?_)
  obtain ⟨⟨hE1, hB1, hO1⟩, hB2, hlt, hO2⟩ := hC
  have HE1 := Lib.hid hE1
  have HO1 := Lib.hid hO1
  have HO2 := Lib.hid hO2
  have hc2 := hO1.cell 2 (by decide)
  have hf2 := hO1.free 2
  have hl2 := hO1.lt
  replace hc2 : w1.cell? ⟨B1, 2, none⟩ = some (.string m.d) := hc2
  clear hE1 hO1 hO2
  go_upto_region 1 with fail
  refine wp_region_line [(0,0),(1,1),(2,0),(3,1),(4,0),(5,0),(6,0),(7,0),(8,3)] (by kernel_rfl) (by kernel_rfl) (Ext w1) (fun _ _ h k => h.trans k) (Ext.refl _) ?_
  iterate 6
    first
      | refine Fx.skip rfl rfl (by simp only [List.set_cons_zero, List.set_cons_succ]; rfl) ?_
      | (with_reducible refine Fx.lab0 ?_
         first
           | refine Fx.moveT rfl rfl rfl (by simp only [List.set_cons_zero, List.set_cons_succ]; rfl) ?_
           | refine Fx.assignT rfl rfl rfl (by simp only [List.set_cons_zero, List.set_cons_succ]; rfl) ?_
           | refine Fx.pure_ rfl rfl (fun _ => by go_simp; first | done | rfl) (by simp only [List.set_cons_zero, List.set_cons_succ]; rfl) ?_)
      | (with_reducible refine Fx.lab1 ?_
         refine Fx.look rfl rfl (fun w' hC => by obtain ⟨hc, hf, hl⟩ := Ext.cells hC; go_simp; rfl) (by simp only [List.set_cons_zero, List.set_cons_succ]; rfl) ?_)
  refine Fx.pure_ (v := .string (m.d.extract 0 mn)) rfl rfl (fun _ => by go_simp) (by simp only [List.set_cons_zero, List.set_cons_succ]; rfl) ?_
  first
    | refine Fx.skip rfl rfl (by simp only [List.set_cons_zero, List.set_cons_succ]; rfl) ?_
    | (with_reducible refine Fx.lab0 ?_
       first
         | refine Fx.moveT rfl rfl rfl (by simp only [List.set_cons_zero, List.set_cons_succ]; rfl) ?_
         | refine Fx.assignT rfl rfl rfl (by simp only [List.set_cons_zero, List.set_cons_succ]; rfl) ?_
         | refine Fx.pure_ rfl rfl (fun _ => by go_simp; first | done | rfl) (by simp only [List.set_cons_zero, List.set_cons_succ]; rfl) ?_)
    | (with_reducible refine Fx.lab1 ?_
       refine Fx.look rfl rfl (fun w' hC => by obtain ⟨hc, hf, hl⟩ := Ext.cells hC; go_simp; rfl) (by simp only [List.set_cons_zero, List.set_cons_succ]; rfl) ?_)
  refine Fx.store ⟨B1, 2, none⟩ (.string (m.d.extract 0 mn)) rfl rfl (fun w' hC => by
    obtain ⟨hc, hf, hl⟩ := hC.cells
    have e1 := (hc _ 2 hl2).trans hc2
    have e2 := (hf _ 2 hl2).trans hf2
    clear hc hf hl
    go_simp) ?_
  refine Fx.done (fun wx hC => ?_)
  obtain ⟨w', x1, x2⟩ := hC
  have hEx := Lib.hid (((HE1.out.trans x1).setNew (p := ⟨B1, 2, none⟩) hB1 (.string (m.d.extract 0 mn))).trans x2)
  have hOx : Obj_ wx B1 3 (msF (cutM m)) := (((HO1.out.ext x1).set (i := 2) (by decide) (.string (m.d.extract 0 mn))).ext x2).congr (fun i hi => by
    rw [Hcut.out]
    match i, hi with
    | 0, _ => rfl
    | 1, _ => rfl
    | 2, _ => rfl)
  have m1 : Mods (· = B1) w1 wx := (x1.mods _).trans ((Mods.setCell w' B1 2 _).then_ x2) (fun _ _ h => h)
  have hO2x := HO2.out.mods m1 (by omega)
  have HO2x := Lib.hid hO2x
  obtain ⟨d0, d1, d2⟩ := hOx.ms
  have dl := hOx.lt
  clear x1 x2 m1 hc2 hf2 hl2 hOx hO2x
  go_upto_region 2 with fail
  refine wp_region_line [(0,1),(1,3)] (by kernel_rfl) (by kernel_rfl) (Ext wx) (fun _ _ h k => h.trans k) (Ext.refl _) ?_
  refine Fx.look rfl rfl (op_load_Ms' (m := cutM m) dl d0 d1 d2 rfl) (by simp only [List.set_cons_zero, List.set_cons_succ]; rfl) ?_
  refine Fx.eff0 (fun w' => Ext w w' ∧ Obj_ w' B2 3 (msF (cutM m))) (fun _ _ h k => ⟨h.1.trans k, h.2.ext k⟩) rfl rfl (fun w' hC => stepAt_store_Ms (hEx.out.trans hC) hB2 (HO2x.out.ext hC) (cutM m) rfl rfl) ?_
  refine Fx.done (fun w3 hC => ?_)
  have HC := Lib.hid hC
  clear hC d0 d1 d2 dl
  obtain ⟨g0, g1, g2⟩ := HC.out.2.ms
  go_wp2
  refine bodyPost_ret (v := (cutM m).val) ?_ rfl ⟨rfl, HC.out.1⟩
  rw [results_cell1 (p := 2) (ty := 34) rfl]
  have e : (asAddr (.pointer (some ⟨B2, 0, none⟩))).run Try.prog w3 = .ok ⟨B2, 0, none⟩ w3 := by simp [asAddr, Sem.run]
  refine Eq.trans (congrArg (fun r => Result.andThen r _) e) ?_
  rw [Result.andThen_ok]
  unfold Ms.val
  simp [go_sem, loadVar, g0, g1, g2, Try.isAgg34, Try.sizeOf34]
end Go.Proofs.Ytokljdkeegdniaa
