/-
  sequence.Follower: keep.
-/
import Derived.Test.YtokljdkeegdniaaRecv
namespace Go.Proofs.Ytokljdkeegdniaa
open Go.RowKit
attribute [local go_sem] Oper.semAt_some

def keepS (σ : FwSt) (x : Nb) : FwSt := if (kfind (x.e, x.n) σ.bf).isSome then σ else if σ.bf.length < 64 then { σ with bf := kput (x.e, x.n) x.m σ.bf } else σ
set_option maxRecDepth 100000 in
set_option maxHeartbeats 3200000 in
theorem keep_at {w : World} {b mw mb : Nat} {σ : FwSt} (h : FwAt w b mw mb σ) (hlen : σ.bf.length ≤ 1000000) (x : Nb) :
    Calls Try.prog 31 #[.pointer (some ⟨b, 0, none⟩), x.val] w fun e w' => (∃ v, e = .returned v) ∧ FwAt w' b mw mb (keepS σ x) ∧ Mods (FF b mw mb) w w' := by
  have H := Lib.hid h
  obtain ⟨n, hn⟩ : ∃ n, σ.bf.length = n := ⟨_, rfl⟩
  have Hn := Lib.hid hn
  rw [hn] at hlen
  obtain ⟨o, ho⟩ : ∃ o, kfind (x.e, x.n) σ.bf = o := ⟨_, rfl⟩
  have Ho := Lib.hid ho
  clear h hn ho
  go_enter Try.func31, Try.ntmps31
  go_upto_region 0 with fail
  refine wp_region_line [(0,2)] (by kernel_rfl) (by kernel_rfl) (Ext w) (fun _ _ h k => h.trans k) (Ext.refl _) ?_
  refine Fx.mkPtr (fun B w' => w.heap.size ≤ B ∧ Obj_ w' B 5 (nbF x)) (fun B _ _ h k => ⟨h.1, h.2.ext k⟩) rfl rfl (fun w' hC => stepAt_box_Nb hC x rfl) (fun B3 => ?_)
  simp only [List.set_cons_zero, List.set_cons_succ]
  refine Fx.done (fun w1 hC => ?_)
  have HE1 := Lib.hid hC.1
  have HO1 := Lib.hid hC.2.2
  clear hC
  have n0 := HO1.out.nb.c0
  have n1 := HO1.out.nb.c1
  have nl := HO1.out.lt
  simp only [Nat.zero_add] at n1
  go_upto_region 1 with fail
  refine wp_region_line [(0,0),(1,1),(2,0),(3,1),(4,0),(5,2),(6,3)] (by kernel_rfl) (by kernel_rfl) (Ext w1) (fun _ _ h k => h.trans k) (Ext.refl _) ?_
  iterate 4
    first
      | refine Fx.skip rfl rfl (by simp only [List.set_cons_zero, List.set_cons_succ]; rfl) ?_
      | (with_reducible refine Fx.lab0 ?_
         first
           | refine Fx.moveT rfl rfl rfl (by simp only [List.set_cons_zero, List.set_cons_succ]; rfl) ?_
           | refine Fx.assignT rfl rfl rfl (by simp only [List.set_cons_zero, List.set_cons_succ]; rfl) ?_
           | refine Fx.pure_ rfl rfl (fun _ => by go_simp; first | done | rfl) (by simp only [List.set_cons_zero, List.set_cons_succ]; rfl) ?_)
      | (with_reducible refine Fx.lab1 ?_
         refine Fx.look rfl rfl (fun w' hC => by obtain ⟨hc, hf, hl⟩ := Ext.cells hC; go_simp; rfl) (by simp only [List.set_cons_zero, List.set_cons_succ]; rfl) ?_)
  refine Fx.pure_ (v := plV (x.e, x.n)) rfl rfl (fun _ => by unfold plV; first | (go_simp; done) | (go_simp; rfl)) (by simp only [List.set_cons_zero, List.set_cons_succ]; rfl) ?_
  refine Fx.mkPtr (fun B w' => w1.heap.size ≤ B ∧ Obj_ w' B 2 (plF (0, 0))) (fun B _ _ h k => ⟨h.1, h.2.ext k⟩) rfl rfl (fun w' hC => stepAt_alloc_Pl hC) (fun B4 => ?_)
  simp only [List.set_cons_zero, List.set_cons_succ]
  refine Fx.eff0 (PlPre w1 B4 (x.e, x.n)) (plPre_stable _ _ _) rfl rfl (fun w' hC => stepAt_mono (stepAt_store_Pl hC.1 hC.2.1 hC.2.2 (x.e, x.n) rfl rfl) (fun _ w'' h => ⟨h.1, hC.2.1, h.2⟩)) ?_
  refine Fx.done (fun w2 hC => ?_)
  obtain ⟨hC2, -, hO4⟩ := hC
  have HE2 := Lib.hid (HE1.out.trans hC2)
  have H2 := Lib.hid (H.out.ext (HE1.out.trans hC2))
  have HO2 := Lib.hid (HO1.out.ext hC2)
  have HO4 := Lib.hid hO4
  have p0 := hO4.cell 0 (by decide)
  have p1 := hO4.cell 1 (by decide)
  have pl := hO4.lt
  simp only [plF, List.getD_cons_zero, List.getD_cons_succ] at p0 p1
  obtain ⟨c0, c1, c2, c3, lb⟩ := H2.out.cells
  clear hC2 hO4 n0 n1 nl HE1 HO1 c0 c1 c2
  go_upto_region 2 with fail
  refine wp_region_plan [(0,0),(1,0),(2,0),(3,1),(4,1),(5,1),(6,0),(7,0),(8,0),(9,2),(10,3),(11,0)] (by kernel_rfl) (by kernel_rfl) (by kernel_rfl) (Ext w2) (fun _ _ h k => h.trans k) (Ext.drawn _ _) ?_
  iterate 4
    first
      | refine Fx.skip rfl rfl (by simp only [List.set_cons_zero, List.set_cons_succ]; rfl) ?_
      | (with_reducible refine Fx.lab0 ?_
         first
           | refine Fx.moveT rfl rfl rfl (by simp only [List.set_cons_zero, List.set_cons_succ]; rfl) ?_
           | refine Fx.assignT rfl rfl rfl (by simp only [List.set_cons_zero, List.set_cons_succ]; rfl) ?_
           | refine Fx.pure_ rfl rfl (fun _ => by go_simp; first | done | rfl) (by simp only [List.set_cons_zero, List.set_cons_succ]; rfl) ?_)
      | (with_reducible refine Fx.lab1 ?_
         refine Fx.look rfl rfl (fun w' hC => by obtain ⟨hc, hf, hl⟩ := Ext.cells hC; go_simp; rfl) (by simp only [List.set_cons_zero, List.set_cons_succ]; rfl) ?_)
  refine Fx.look rfl rfl (op_load_Pl' (f := x.e) (c := x.n) pl p0 p1 rfl) (by simp only [List.set_cons_zero, List.set_cons_succ]; rfl) ?_
  refine Fx.look (v := .tuple #[(o.getD ms0).val, .bool o.isSome]) rfl rfl (op_lookW (k := (x.e, x.n)) H2.out.bm Ho.out rfl rfl) (by simp only [List.set_cons_zero, List.set_cons_succ]; rfl) ?_
  iterate 3
    first
      | refine Fx.skip rfl rfl (by simp only [List.set_cons_zero, List.set_cons_succ]; rfl) ?_
      | (with_reducible refine Fx.lab0 ?_
         first
           | refine Fx.moveT rfl rfl rfl (by simp only [List.set_cons_zero, List.set_cons_succ]; rfl) ?_
           | refine Fx.assignT rfl rfl rfl (by simp only [List.set_cons_zero, List.set_cons_succ]; rfl) ?_
           | refine Fx.pure_ rfl rfl (fun _ => by go_simp; first | done | rfl) (by simp only [List.set_cons_zero, List.set_cons_succ]; rfl) ?_)
      | (with_reducible refine Fx.lab1 ?_
         refine Fx.look rfl rfl (fun w' hC => by obtain ⟨hc, hf, hl⟩ := Ext.cells hC; go_simp; rfl) (by simp only [List.set_cons_zero, List.set_cons_succ]; rfl) ?_)
  refine Fx.mkPtr (fun B w' => w2.heap.size ≤ B ∧ Obj_ w' B 3 (msF ms0)) (fun B _ _ h k => ⟨h.1, h.2.ext k⟩) rfl rfl (fun w' hC => stepAt_alloc_Ms hC) (fun B5 => ?_)
  simp only [List.set_cons_zero, List.set_cons_succ]
  refine Fx.eff0 (MsPre w2 B5 (o.getD ms0)) (msPre_stable _ _ _) rfl rfl (fun w' hC => stepAt_mono (stepAt_store_Ms hC.1 hC.2.1 hC.2.2 (o.getD ms0) rfl rfl) (fun _ w'' h => ⟨h.1, hC.2.1, h.2⟩)) ?_
  first
    | refine Fx.skip rfl rfl (by simp only [List.set_cons_zero, List.set_cons_succ]; rfl) ?_
    | (with_reducible refine Fx.lab0 ?_
       first
         | refine Fx.moveT rfl rfl rfl (by simp only [List.set_cons_zero, List.set_cons_succ]; rfl) ?_
         | refine Fx.assignT rfl rfl rfl (by simp only [List.set_cons_zero, List.set_cons_succ]; rfl) ?_
         | refine Fx.pure_ rfl rfl (fun _ => by go_simp; first | done | rfl) (by simp only [List.set_cons_zero, List.set_cons_succ]; rfl) ?_)
    | (with_reducible refine Fx.lab1 ?_
       refine Fx.look rfl rfl (fun w' hC => by obtain ⟨hc, hf, hl⟩ := Ext.cells hC; go_simp; rfl) (by simp only [List.set_cons_zero, List.set_cons_succ]; rfl) ?_)
  refine Fx.done (fun w3 hC => ?_)
  obtain ⟨hC3, -, -⟩ := hC
  have HE3 := Lib.hid (HE2.out.trans hC3)
  have H3 := Lib.hid (H2.out.ext hC3)
  have HO3 := Lib.hid (HO2.out.ext hC3)
  have HO43 := Lib.hid (HO4.out.ext hC3)
  clear hC3 p0 p1 pl c3 lb HE2 H2 HO2 HO4
  obtain ⟨q, hq⟩ : ∃ q, o.isSome = q := ⟨_, rfl⟩
  have Hq := Lib.hid hq
  rw [hq]
  clear hq
  cases q with
  | true =>
    go_wp2
    go_end0
    have : keepS σ x = σ := by unfold keepS; rw [Ho.out, Hq.out]; rfl
    exact ⟨⟨_, rfl⟩, by rw [this]; exact H3.out, HE3.out.mods _⟩
  | false =>
    obtain ⟨c0, c1, c2, c3, lb⟩ := H3.out.cells
    have hln : ∀ w', Ext w3 w' → (Builtin.len_ #[69] 3 #[.map (some mb)]).run Try.prog w' = .ok (.int .i64 n) w' := fun w' hC => by
      have := (H3.out.bm.ext hC).len Try.underlying69 (ty := 3)
      rwa [Hn.out] at this
    have hln3 := hln w3 (Ext.refl _)
    clear hln c0 c1 c2
    by_cases h64 : n < 64
    · have hb2 : decide ((n : Int) < 64) = true := by simp; omega
      have hb3 : decide (n < 64) = true := by simpa using h64
      have H64 := Lib.hid h64
      clear h64
      obtain ⟨m0, m1, m2⟩ := HO3.out.nb.ms
      have nl := HO3.out.lt
      have p0 := HO43.out.cell 0 (by decide)
      have p1 := HO43.out.cell 1 (by decide)
      have pl := HO43.out.lt
      simp only [plF, List.getD_cons_zero, List.getD_cons_succ] at p0 p1
      go_upto_region 4 with fail
      refine wp_region_plan [(0,0),(1,0),(2,0),(3,1),(4,1),(5,0),(6,1),(7,3)] (by kernel_rfl) (by kernel_rfl) (by kernel_rfl) (Ext w3) (fun _ _ h k => h.trans k) (Ext.drawn _ _) ?_
      iterate 4
        first
          | refine Fx.skip rfl rfl (by simp only [List.set_cons_zero, List.set_cons_succ]; rfl) ?_
          | (with_reducible refine Fx.lab0 ?_
             first
               | refine Fx.moveT rfl rfl rfl (by simp only [List.set_cons_zero, List.set_cons_succ]; rfl) ?_
               | refine Fx.assignT rfl rfl rfl (by simp only [List.set_cons_zero, List.set_cons_succ]; rfl) ?_
               | refine Fx.pure_ rfl rfl (fun _ => by go_simp; first | done | rfl) (by simp only [List.set_cons_zero, List.set_cons_succ]; rfl) ?_)
          | (with_reducible refine Fx.lab1 ?_
             refine Fx.look rfl rfl (fun w' hC => by obtain ⟨hc, hf, hl⟩ := Ext.cells hC; go_simp; rfl) (by simp only [List.set_cons_zero, List.set_cons_succ]; rfl) ?_)
      refine Fx.look rfl rfl (op_load_Pl' (f := x.e) (c := x.n) pl p0 p1 rfl) (by simp only [List.set_cons_zero, List.set_cons_succ]; rfl) ?_
      first
        | refine Fx.skip rfl rfl (by simp only [List.set_cons_zero, List.set_cons_succ]; rfl) ?_
        | (with_reducible refine Fx.lab0 ?_
           first
             | refine Fx.moveT rfl rfl rfl (by simp only [List.set_cons_zero, List.set_cons_succ]; rfl) ?_
             | refine Fx.assignT rfl rfl rfl (by simp only [List.set_cons_zero, List.set_cons_succ]; rfl) ?_
             | refine Fx.pure_ rfl rfl (fun _ => by go_simp; first | done | rfl) (by simp only [List.set_cons_zero, List.set_cons_succ]; rfl) ?_)
        | (with_reducible refine Fx.lab1 ?_
           refine Fx.look rfl rfl (fun w' hC => by obtain ⟨hc, hf, hl⟩ := Ext.cells hC; go_simp; rfl) (by simp only [List.set_cons_zero, List.set_cons_succ]; rfl) ?_)
      refine Fx.look rfl rfl (op_load_Ms' (m := x.m) nl m0 m1 m2 rfl) (by simp only [List.set_cons_zero, List.set_cons_succ]; rfl) ?_
      refine Fx.eff0 (fun w' => MapIs w' mb plV Ms.val (kput (x.e, x.n) x.m σ.bf) ∧ Mods (· = mb) w3 w') (fun _ _ h k => ⟨h.1.ext k, h.2.then_ k⟩) rfl rfl (fun w' hC => ?_) ?_
      · exact stepAt_mono (stepAt_upd (k := (x.e, x.n)) (v := x.m) (H3.out.bm.ext hC) keysPl Try.underlying69 rfl rfl rfl) (fun _ w'' hh => ⟨hh.1, hh.2.after hC⟩)
      refine Fx.done (fun w4 hC => ?_)
      have HC := Lib.hid hC
      clear hC m0 m1 m2 nl p0 p1 pl c3 lb hln3
      go_wp2
      go_end0
      have : keepS σ x = { σ with bf := kput (x.e, x.n) x.m σ.bf } := by unfold keepS; rw [Ho.out, Hq.out, Hn.out]; simp [H64.out]
      exact ⟨⟨_, rfl⟩, by rw [this]; exact H3.out.putB HC.out.1 HC.out.2, (HE3.out.mods _).trans HC.out.2 (fun _ _ h => .inr (.inr h))⟩
    · have hb2 : decide ((n : Int) < 64) = false := by simp; omega
      have hb3 : decide (n < 64) = false := by simpa using h64
      have H64 := Lib.hid h64
      clear h64
      go_wp2
      go_end0
      have : keepS σ x = σ := by unfold keepS; rw [Ho.out, Hq.out, Hn.out]; simp [H64.out]
      exact ⟨⟨_, rfl⟩, by rw [this]; exact H3.out, HE3.out.mods _⟩
end Go.Proofs.Ytokljdkeegdniaa
