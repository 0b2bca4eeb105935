/-
  sequence.Follower: Receive of this epoch; the nil follower; Move to an epoch that is not ahead.
-/
import Derived.Test.YtokljdkeegdniaaSq
namespace Go.Proofs.Ytokljdkeegdniaa
open Go.RowKit
attribute [local go_sem] Oper.semAt_some

theorem stepAt_box_Nb {a : Act} {d : Option Tmp} {x : Operand} {t : TypeId} {s : String} {af : Array Edge} {g : Option (Nat × Bool)} {W w : World} (hC : Ext W w) (m : Nb) (hx : a.eval x = m.val) :
    stepAt Try.prog ⟨d, .box 36 x, t, s, af, g⟩ a w (fun u w' => ∃ b, u = .pointer (some ⟨b, 0, none⟩) ∧ Ext w w' ∧ W.heap.size ≤ b ∧ Obj_ w' b 5 (nbF m)) := by
  have hr : (execOp a.eval ⟨d, .box 36 x, t, s, af, g⟩).run Try.prog w = .ok (.value (.pointer (some ⟨w.heap.size, 0, none⟩))) (w.alloc (.cells #[.int .u32 m.e, .int .u32 m.n, .int .i64 m.m.f, .int .u32 m.m.c, .string m.m.d] 36)) := by
    simp only [execOp, hx]
    unfold Nb.val
    first | (go_simp; done) | (go_simp; rfl)
  unfold stepAt
  rw [hr]
  exact ⟨_, rfl, Ext.alloc _ _, hC.size, box_Nb w m⟩
def RecvR (w : World) (b mw mb : Nat) (σ : FwSt) (l : List Nb) (e : Ending) (w' : World) : Prop :=
  ∃ nv, e = .returned (.tuple #[nv, .int .i64 0]) ∧ OwnMs w' nv (takeL σ l) ∧ FwAt w' b mw mb (takeS σ l) ∧ Mods (FF b mw mb) w w' ∧ ∀ x, nv.ownBlock = some x → w.heap.size ≤ x
theorem recv_nil (w : World) (x : Nb) : Calls Try.prog 14 #[.pointer none, x.val] w fun e w' => e = .returned (.tuple #[.slice none 0 0, .int .i64 1]) ∧ Ext w w' := by
  go_enter Try.func14, Try.ntmps14
  go_upto_region 0 with fail
  refine wp_region_line [(0,2),(1,0),(2,0)] (by kernel_rfl) (by kernel_rfl) (Ext w) (fun _ _ h k => h.trans k) (Ext.refl _) ?_
  refine Fx.mkPtr (fun B w' => w.heap.size ≤ B ∧ Obj_ w' B 5 (nbF x)) (fun B _ _ h k => ⟨h.1, h.2.ext k⟩) rfl rfl (fun w' hC => stepAt_box_Nb hC x rfl) (fun B => ?_)
  simp only [List.set_cons_zero, List.set_cons_succ]
  iterate 2
    first
      | refine Fx.skip rfl rfl (by simp only [List.set_cons_zero, List.set_cons_succ]; rfl) ?_
      | (with_reducible refine Fx.lab0 ?_
         first
           | refine Fx.moveT rfl rfl rfl (by simp only [List.set_cons_zero, List.set_cons_succ]; rfl) ?_
           | refine Fx.assignT rfl rfl rfl (by simp only [List.set_cons_zero, List.set_cons_succ]; rfl) ?_
           | refine Fx.pure_ rfl rfl (fun _ => by go_simp; first | done | rfl) (by simp only [List.set_cons_zero, List.set_cons_succ]; rfl) ?_)
      | (with_reducible refine Fx.lab1 ?_
         refine Fx.look rfl rfl (fun w' hC => by obtain ⟨hc, hf, hl⟩ := Ext.cells hC; go_simp; rfl) (by simp only [List.set_cons_zero, List.set_cons_succ]; rfl) ?_)
  refine Fx.done (fun w1 hC => ?_)
  have HE := Lib.hid hC.1
  clear hC
  go_wp2_with (go_at_call 25; refine (isNil_nil _).mono ?_; rintro e w2 ⟨rfl, rfl⟩)
  go_ret2
  exact ⟨rfl, HE.out⟩
theorem move_nil (w : World) (t : Int) : Calls Try.prog 12 #[.pointer none, .int .u32 t] w fun e w' => e = .returned (.tuple #[.slice none 0 0, .int .i64 1]) ∧ Ext w w' := by
  go_enter Try.func12, Try.ntmps12
  go_wp2_with (go_at_call 25; refine (isNil_nil _).mono ?_; rintro e w2 ⟨rfl, rfl⟩)
  go_ret2
  exact ⟨rfl, Ext.refl _⟩
theorem marks_nil (w : World) : Calls Try.prog 18 #[.pointer none] w fun e w' => e = .returned (.slice none 0 0) ∧ Ext w w' := by
  go_enter Try.func18, Try.ntmps18
  go_wp2_with (go_at_call 25; refine (isNil_nil _).mono ?_; rintro e w2 ⟨rfl, rfl⟩)
  go_ret
  exact ⟨rfl, Ext.refl _⟩
theorem all_nil (w : World) : Calls Try.prog 24 #[.pointer none] w fun e w' => e = .returned (.slice none 0 0) ∧ Ext w w' := by
  go_enter Try.func24, Try.ntmps24
  go_wp2_with (go_at_call 35; refine (sqNil_nil _).mono ?_; rintro e w2 ⟨rfl, rfl⟩)
  go_ret
  exact ⟨rfl, Ext.refl _⟩
theorem move_stale {w : World} {b mw mb : Nat} {σ : FwSt} (h : FwAt w b mw mb σ) (t : Int) (ht : t ≤ σ.ep) : Calls Try.prog 12 #[.pointer (some ⟨b, 0, none⟩), .int .u32 t] w fun e w' => e = .returned (.tuple #[.slice none 0 0, .int .i64 110]) ∧ Ext w w' := by
  have H := Lib.hid h
  obtain ⟨ep, hep⟩ : ∃ ep, σ.ep = ep := ⟨_, rfl⟩
  have hc := h.cells.1
  rw [hep] at ht hc
  have Hc := Lib.hid hc
  have hd : decide (t ≤ ep) = true := by simpa using ht
  clear h hep hc
  go_enter Try.func12, Try.ntmps12
  go_wp2_with (first
    | (go_at_call 25; refine (isNil_at H.out).mono ?_; rintro e w2 ⟨rfl, rfl⟩)
    | (go_at_call 26; refine (era_in Hc.out).mono ?_; rintro e w3 ⟨rfl, rfl⟩))
  go_ret2
  exact ⟨rfl, Ext.refl _⟩
set_option maxRecDepth 100000 in
set_option maxHeartbeats 3200000 in
theorem recv_now {w : World} {b mw mb : Nat} {σ : FwSt} (h : FwAt w b mw mb σ) (hlen : σ.wt.length ≤ 999999) (x : Nb) (hr : rightB x.m = true) (hn : 1 ≤ x.n) (he : x.e = σ.ep) :
    Calls Try.prog 14 #[.pointer (some ⟨b, 0, none⟩), x.val] w (RecvR w b mw mb σ [x]) := by
  have H := Lib.hid h
  have Hr := Lib.hid hr
  have Hlen := Lib.hid hlen
  have He := Lib.hid he
  have hn1 : ¬ x.n < 1 := by omega
  clear h hr hlen he hn
  go_enter Try.func14, Try.ntmps14
  go_upto_region 0 with fail
  refine wp_region_line [(0,2),(1,0),(2,0)] (by kernel_rfl) (by kernel_rfl) (Ext w) (fun _ _ h k => h.trans k) (Ext.refl _) ?_
  refine Fx.mkPtr (fun B w' => w.heap.size ≤ B ∧ Obj_ w' B 5 (nbF x)) (fun B _ _ h k => ⟨h.1, h.2.ext k⟩) rfl rfl (fun w' hC => stepAt_box_Nb hC x rfl) (fun B => ?_)
  simp only [List.set_cons_zero, List.set_cons_succ]
  iterate 2
    first
      | refine Fx.skip rfl rfl (by simp only [List.set_cons_zero, List.set_cons_succ]; rfl) ?_
      | (with_reducible refine Fx.lab0 ?_
         first
           | refine Fx.moveT rfl rfl rfl (by simp only [List.set_cons_zero, List.set_cons_succ]; rfl) ?_
           | refine Fx.assignT rfl rfl rfl (by simp only [List.set_cons_zero, List.set_cons_succ]; rfl) ?_
           | refine Fx.pure_ rfl rfl (fun _ => by go_simp; first | done | rfl) (by simp only [List.set_cons_zero, List.set_cons_succ]; rfl) ?_)
      | (with_reducible refine Fx.lab1 ?_
         refine Fx.look rfl rfl (fun w' hC => by obtain ⟨hc, hf, hl⟩ := Ext.cells hC; go_simp; rfl) (by simp only [List.set_cons_zero, List.set_cons_succ]; rfl) ?_)
  refine Fx.done (fun w1 hC => ?_)
  obtain ⟨hE1, hB, hOb⟩ := hC
  have HE1 := Lib.hid hE1
  have H1 := Lib.hid (H.out.ext hE1)
  have HOb := Lib.hid hOb
  have n0 := hOb.nb.c0
  have n1 := hOb.nb.c1
  obtain ⟨m0, m1, m2⟩ := hOb.nb.ms
  have nl := hOb.lt
  simp only [Nat.zero_add] at n1
  rw [He.out] at n0
  clear hE1 hB hOb
  go_upto_region 3 with (go_at_call 25; refine (isNil_at H1.out).mono ?_; rintro e w2 ⟨rfl, rfl⟩)
  refine wp_region_line [(0,0),(1,1),(2,1),(3,0),(4,0),(5,0),(6,1),(7,0),(8,0)] (by kernel_rfl) (by kernel_rfl) (Ext w2) (fun _ _ h k => h.trans k) (Ext.refl _) ?_
  first
    | refine Fx.skip rfl rfl (by simp only [List.set_cons_zero, List.set_cons_succ]; rfl) ?_
    | (with_reducible refine Fx.lab0 ?_
       first
         | refine Fx.moveT rfl rfl rfl (by simp only [List.set_cons_zero, List.set_cons_succ]; rfl) ?_
         | refine Fx.assignT rfl rfl rfl (by simp only [List.set_cons_zero, List.set_cons_succ]; rfl) ?_
         | refine Fx.pure_ rfl rfl (fun _ => by go_simp; first | done | rfl) (by simp only [List.set_cons_zero, List.set_cons_succ]; rfl) ?_)
    | (with_reducible refine Fx.lab1 ?_
       refine Fx.look rfl rfl (fun w' hC => by obtain ⟨hc, hf, hl⟩ := Ext.cells hC; go_simp; rfl) (by simp only [List.set_cons_zero, List.set_cons_succ]; rfl) ?_)
  refine Fx.look rfl rfl (op_load_Ms' (m := x.m) nl m0 m1 m2 rfl) (by simp only [List.set_cons_zero, List.set_cons_succ]; rfl) ?_
  refine Fx.call1 (v := .bool true) (args := #[x.m.val]) rfl rfl (fun _ => by first | (go_simp; done) | (go_simp; rfl)) (fun w' hC => (right_ids x.m w').mono (fun e w'' hh => by rw [Hr.out] at hh; exact hh)) (by simp only [List.set_cons_zero, List.set_cons_succ]; rfl) ?_
  iterate 6
    first
      | refine Fx.skip rfl rfl (by simp only [List.set_cons_zero, List.set_cons_succ]; rfl) ?_
      | (with_reducible refine Fx.lab0 ?_
         first
           | refine Fx.moveT rfl rfl rfl (by simp only [List.set_cons_zero, List.set_cons_succ]; rfl) ?_
           | refine Fx.assignT rfl rfl rfl (by simp only [List.set_cons_zero, List.set_cons_succ]; rfl) ?_
           | refine Fx.pure_ rfl rfl (fun _ => by go_simp; first | done | rfl) (by simp only [List.set_cons_zero, List.set_cons_succ]; rfl) ?_)
      | (with_reducible refine Fx.lab1 ?_
         refine Fx.look rfl rfl (fun w' hC => by obtain ⟨hc, hf, hl⟩ := Ext.cells hC; go_simp; rfl) (by simp only [List.set_cons_zero, List.set_cons_succ]; rfl) ?_)
  refine Fx.done (fun w3 hC => ?_)
  obtain ⟨xc, xf, xl⟩ := hC.cells
  replace n0 := (xc _ _ nl).trans n0
  replace nl := xl _ nl
  have H3 := Lib.hid (H1.out.ext hC)
  have HE3 := Lib.hid (HE1.out.trans hC)
  have HOb3 := Lib.hid (HOb.out.ext hC)
  obtain ⟨c0, c1, c2, c3, lb⟩ := H3.out.cells
  generalize σ.ep = ep at n0 c0
  clear xc xf xl hC n1 m0 m1 m2 c1 c2 c3 H1 HE1 HOb
  go_upto_region 5 with fail
  refine wp_region_plan [(0,0),(1,1),(2,0),(3,0),(4,0),(5,1),(6,0)] (by kernel_rfl) (by kernel_rfl) (by kernel_rfl) (Ext w3) (fun _ _ h k => h.trans k) (Ext.drawn _ _) ?_
  iterate 5
    first
      | refine Fx.skip rfl rfl (by simp only [List.set_cons_zero, List.set_cons_succ]; rfl) ?_
      | (with_reducible refine Fx.lab0 ?_
         first
           | refine Fx.moveT rfl rfl rfl (by simp only [List.set_cons_zero, List.set_cons_succ]; rfl) ?_
           | refine Fx.assignT rfl rfl rfl (by simp only [List.set_cons_zero, List.set_cons_succ]; rfl) ?_
           | refine Fx.pure_ rfl rfl (fun _ => by go_simp; first | done | rfl) (by simp only [List.set_cons_zero, List.set_cons_succ]; rfl) ?_)
      | (with_reducible refine Fx.lab1 ?_
         refine Fx.look rfl rfl (fun w' hC => by obtain ⟨hc, hf, hl⟩ := Ext.cells hC; go_simp; rfl) (by simp only [List.set_cons_zero, List.set_cons_succ]; rfl) ?_)
  refine Fx.call1 (v := .int .u32 ep) (args := #[.pointer (some ⟨b, 0, none⟩)]) rfl rfl (fun _ => by first | (go_simp; done) | (go_simp; rfl)) (fun w' hC => (era_in (w := w') ((hC.cells.1 _ _ lb).trans c0)).mono (fun e w'' hh => ⟨hh.1, by rw [hh.2]; exact Ext.refl _⟩)) (by simp only [List.set_cons_zero, List.set_cons_succ]; rfl) ?_
  refine Fx.pure_ (v := .bool false) rfl rfl (fun _ => by first | (go_simp; done) | (go_simp; rfl)) (by simp only [List.set_cons_zero, List.set_cons_succ]; rfl) ?_
  refine Fx.done (fun w4 hC => ?_)
  obtain ⟨xc, xf, xl⟩ := hC.cells
  replace n0 := (xc _ _ nl).trans n0
  replace nl := xl _ nl
  replace c0 := (xc _ _ lb).trans c0
  replace lb := xl _ lb
  have H4 := Lib.hid (H3.out.ext hC)
  have HE4 := Lib.hid (HE3.out.trans hC)
  have HOb4 := Lib.hid (HOb3.out.ext hC)
  clear xc xf xl hC
  go_upto_region 7 with fail
  refine wp_region_plan [(0,0),(1,1),(2,0),(3,0),(4,0),(5,1),(6,0)] (by kernel_rfl) (by kernel_rfl) (by kernel_rfl) (Ext w4) (fun _ _ h k => h.trans k) (Ext.drawn _ _) ?_
  iterate 5
    first
      | refine Fx.skip rfl rfl (by simp only [List.set_cons_zero, List.set_cons_succ]; rfl) ?_
      | (with_reducible refine Fx.lab0 ?_
         first
           | refine Fx.moveT rfl rfl rfl (by simp only [List.set_cons_zero, List.set_cons_succ]; rfl) ?_
           | refine Fx.assignT rfl rfl rfl (by simp only [List.set_cons_zero, List.set_cons_succ]; rfl) ?_
           | refine Fx.pure_ rfl rfl (fun _ => by go_simp; first | done | rfl) (by simp only [List.set_cons_zero, List.set_cons_succ]; rfl) ?_)
      | (with_reducible refine Fx.lab1 ?_
         refine Fx.look rfl rfl (fun w' hC => by obtain ⟨hc, hf, hl⟩ := Ext.cells hC; go_simp; rfl) (by simp only [List.set_cons_zero, List.set_cons_succ]; rfl) ?_)
  refine Fx.call1 (v := .int .u32 ep) (args := #[.pointer (some ⟨b, 0, none⟩)]) rfl rfl (fun _ => by first | (go_simp; done) | (go_simp; rfl)) (fun w' hC => (era_in (w := w') ((hC.cells.1 _ _ lb).trans c0)).mono (fun e w'' hh => ⟨hh.1, by rw [hh.2]; exact Ext.refl _⟩)) (by simp only [List.set_cons_zero, List.set_cons_succ]; rfl) ?_
  refine Fx.pure_ (v := .bool false) rfl rfl (fun _ => by first | (go_simp; done) | (go_simp; rfl)) (by simp only [List.set_cons_zero, List.set_cons_succ]; rfl) ?_
  refine Fx.done (fun w5 hC => ?_)
  have H5 := Lib.hid (H4.out.ext hC)
  have HE5 := Lib.hid (HE4.out.trans hC)
  have HOb5 := Lib.hid (HOb4.out.ext hC)
  clear hC n0 c0 lb nl
  have hN := HOb5.out.nb
  have nl := HOb5.out.lt
  go_upto_region 10 with fail
  refine wp_region_line [(0,0),(1,1),(2,2),(3,3),(4,0),(5,0)] (by kernel_rfl) (by kernel_rfl) (Ext w5) (fun _ _ h k => h.trans k) (Ext.refl _) ?_
  first
    | refine Fx.skip rfl rfl (by simp only [List.set_cons_zero, List.set_cons_succ]; rfl) ?_
    | (with_reducible refine Fx.lab0 ?_
       first
         | refine Fx.moveT rfl rfl rfl (by simp only [List.set_cons_zero, List.set_cons_succ]; rfl) ?_
         | refine Fx.assignT rfl rfl rfl (by simp only [List.set_cons_zero, List.set_cons_succ]; rfl) ?_
         | refine Fx.pure_ rfl rfl (fun _ => by go_simp; first | done | rfl) (by simp only [List.set_cons_zero, List.set_cons_succ]; rfl) ?_)
    | (with_reducible refine Fx.lab1 ?_
       refine Fx.look rfl rfl (fun w' hC => by obtain ⟨hc, hf, hl⟩ := Ext.cells hC; go_simp; rfl) (by simp only [List.set_cons_zero, List.set_cons_succ]; rfl) ?_)
  refine Fx.look rfl rfl (op_load_Nb' (m := x) nl hN rfl) (by simp only [List.set_cons_zero, List.set_cons_succ]; rfl) ?_
  refine Fx.mkSl 1 1 (fun B w' => w5.heap.size ≤ B ∧ NbL w' (.slice (some ⟨B, 0, none⟩) 1 1) [x]) (fun B _ _ h k => ⟨h.1, h.2.ext k⟩) rfl rfl (fun w' hC => stepAt_lit1N hC x rfl) (fun B2 => ?_)
  simp only [List.set_cons_zero, List.set_cons_succ]
  refine Fx.eff (fun nv w' => OwnMs w' nv (takeL σ [x]) ∧ FwAt w' b mw mb (takeS σ [x]) ∧ Mods (FF b mw mb) w5 w' ∧ ∀ x, nv.ownBlock = some x → w5.heap.size ≤ x) (fun v _ _ h k => ⟨h.1.ext k, h.2.1.ext k, h.2.2.1.then_ k, h.2.2.2⟩) rfl rfl (fun w' hC => ?_) (fun nv => ?_)
  · unfold stepAt
    rw [show (execOp _ _).run Try.prog w' = .ok (.enter 28 #[.pointer (some ⟨b, 0, none⟩), .slice (some ⟨B2, 0, none⟩) 1 1]) w' from by first | (go_simp; done) | (go_simp; rfl)]
    refine (take_at (H5.out.ext hC.1) _ [x] hC.2.2 (fun z hz hf => ?_) (by have := Hlen.out; simp; omega)).mono (fun e w'' hh => ?_)
    · have := H5.out.lt hf
      have := hC.2.1
      simp [Value.ownBlock] at hz
      omega
    · obtain ⟨nv, rfl, h1, h2, h3, h4⟩ := hh
      exact ⟨nv, rfl, h1, h2, h3.after hC.1, fun z hz => Nat.le_trans hC.1.size (h4 z hz)⟩
  simp only [List.set_cons_zero, List.set_cons_succ]
  iterate 2
    first
      | refine Fx.skip rfl rfl (by simp only [List.set_cons_zero, List.set_cons_succ]; rfl) ?_
      | (with_reducible refine Fx.lab0 ?_
         first
           | refine Fx.moveT rfl rfl rfl (by simp only [List.set_cons_zero, List.set_cons_succ]; rfl) ?_
           | refine Fx.assignT rfl rfl rfl (by simp only [List.set_cons_zero, List.set_cons_succ]; rfl) ?_
           | refine Fx.pure_ rfl rfl (fun _ => by go_simp; first | done | rfl) (by simp only [List.set_cons_zero, List.set_cons_succ]; rfl) ?_)
      | (with_reducible refine Fx.lab1 ?_
         refine Fx.look rfl rfl (fun w' hC => by obtain ⟨hc, hf, hl⟩ := Ext.cells hC; go_simp; rfl) (by simp only [List.set_cons_zero, List.set_cons_succ]; rfl) ?_)
  refine Fx.done (fun w6 hC => ?_)
  have HC := Lib.hid hC
  clear hC hN nl
  go_wp2
  go_ret2
  exact ⟨nv, rfl, HC.out.1, HC.out.2.1, (HE5.out.mods (FF b mw mb)).trans HC.out.2.2.1 (fun _ _ h => h), fun z hz => Nat.le_trans HE5.out.size (HC.out.2.2.2 z hz)⟩
end Go.Proofs.Ytokljdkeegdniaa
