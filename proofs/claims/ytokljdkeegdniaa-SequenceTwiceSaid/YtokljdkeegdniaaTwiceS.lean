/-
  rostrumlaw11.SequenceTwice: what it computes.
-/
import Derived.Test.YtokljdkeegdniaaAllS
namespace Go.Proofs.Ytokljdkeegdniaa
open Go.RowKit
attribute [local go_sem] Oper.semAt_some

theorem numS_some {σ : SqSt} {m : Ms} {n : Int} (h : kfind (keyM m) σ.nm = some n) : numS σ m = σ := by unfold numS; rw [h]
theorem numS2_len (σ : SqSt) (m : Ms) : (numS2 σ m).all.length ≤ σ.all.length + 1 := by
  unfold numS2 numS
  split
  · split <;> simp
  · omega
theorem twice_plain (e0 : Int) (m1 m2 : Ms) (hf : m2.f = m1.f) (hc : m2.c = m1.c) (hd : m2.d.size ≤ 1000) (hr : rightB m1 = true) :
    numE m1 = 0 ∧ numE m2 = 0 ∧ numX2 (sq0 e0) m1 = ⟨e0, 1, m1⟩ ∧ numX2 (numS2 (sq0 e0) m1) m2 = ⟨e0, 1, m1⟩ ∧ (numS2 (numS2 (sq0 e0) m1) m2).all.length = 1 := by
  have hr2 : rightB m2 = true := by
    rw [rightB_iff] at hr ⊢
    rw [hf, hc]
    exact ⟨hr.1, hr.2.1, hr.2.2.1, hr.2.2.2.1, hd⟩
  have hk : keyM m2 = keyM m1 := by unfold keyM; rw [hf, hc]
  have h1 : numS (sq0 e0) m1 = ⟨e0, [(keyM m1, 1)], [⟨e0, 1, m1⟩]⟩ := rfl
  have h2 : kfind (keyM m2) (numS (sq0 e0) m1).nm = some 1 := by rw [h1, hk]; simp [kfind]
  refine ⟨by unfold numE; rw [hr]; rfl, by unfold numE; rw [hr2]; rfl, by unfold numX2; rw [hr]; rfl, ?_, ?_⟩
  · unfold numX2 numS2
    rw [hr2, hr]
    simp only [if_true]
    unfold numX
    rw [h2, h1]; rfl
  · unfold numS2
    rw [hr2, hr]
    simp only [if_true]
    have : numS (numS (sq0 e0) m1) m2 = numS (sq0 e0) m1 := numS_some h2
    rw [this, h1]; rfl
set_option maxRecDepth 100000 in
set_option maxHeartbeats 6400000 in
theorem twice_law (w : World) (e0 : Int) (m : Ms) (s : ByteArray) : Calls Try.prog 7 #[.int .u32 e0, m.val, .string s] w (LawP w) := by
  obtain ⟨mn2, hmn⟩ : ∃ mn, min s.size 1000 = mn := ⟨_, rfl⟩
  have hmi : min (s.size : Int) 1000 = (mn2 : Int) := by omega
  have hms : mn2 ≤ s.size := by omega
  have hmsI : (mn2 : Int) ≤ s.size := by omega
  have hm1000 : mn2 ≤ 1000 := by omega
  clear hmn
  go_enter Try.func7, Try.ntmps7
  go_upto_region 0 with fail
  refine wp_region_line [(0,2),(1,0)] (by kernel_rfl) (by kernel_rfl) (Ext w) (fun _ _ h k => h.trans k) (Ext.refl _) ?_
  refine Fx.mkPtr (fun B w' => w.heap.size ≤ B ∧ Obj_ w' B 3 (msF m)) (fun B _ _ h k => ⟨h.1, h.2.ext k⟩) rfl rfl (fun w' hC => stepAt_box_Ms hC m rfl) (fun B4 => ?_)
  simp only [List.set_cons_zero, List.set_cons_succ]
  first
    | refine Fx.skip rfl rfl (by simp only [List.set_cons_zero, List.set_cons_succ]; rfl) ?_
    | (with_reducible refine Fx.lab0 ?_
       first
         | refine Fx.moveT rfl rfl rfl (by simp only [List.set_cons_zero, List.set_cons_succ]; rfl) ?_
         | refine Fx.assignT rfl rfl rfl (by simp only [List.set_cons_zero, List.set_cons_succ]; rfl) ?_
         | refine Fx.pure_ rfl rfl (fun _ => by go_simp; first | done | rfl) (by simp only [List.set_cons_zero, List.set_cons_succ]; rfl) ?_)
    | (with_reducible refine Fx.lab1 ?_
       refine Fx.look rfl rfl (fun w' hC => by obtain ⟨hc, hf, hl⟩ := Ext.cells hC; go_simp; rfl) (by simp only [List.set_cons_zero, List.set_cons_succ]; rfl) ?_)
  refine Fx.done (fun wa hC => ?_)
  have HEa := Lib.hid hC.1
  have HB4 := Lib.hid hC.2.1
  have HOa := Lib.hid hC.2.2
  clear hC
  go_upto_region 2 with (go_at_call 9; refine (shown_at _).mono ?_; rintro e wb ⟨rfl, hE⟩; have Hb := Lib.hid hE; clear hE)
  have HOb := Lib.hid (HOa.out.ext Hb.out)
  have HEb := Lib.hid (HEa.out.trans Hb.out)
  obtain ⟨d0, d1, d2⟩ := HOb.out.ms
  have dl := HOb.out.lt
  obtain ⟨m1, hm1⟩ : ∃ m1, cutM m = m1 := ⟨_, rfl⟩
  have Hm1 := Lib.hid hm1
  clear HEa HOa Hb hm1
  refine wp_region_line [(0,1),(1,1),(2,3)] (by kernel_rfl) (by kernel_rfl) (Ext wb) (fun _ _ h k => h.trans k) (Ext.refl _) ?_
  refine Fx.look rfl rfl (op_load_Ms' (m := m) dl d0 d1 d2 rfl) (by simp only [List.set_cons_zero, List.set_cons_succ]; rfl) ?_
  refine Fx.call1 (v := m1.val) (args := #[m.val]) rfl rfl (fun _ => by first | (go_simp; done) | (go_simp; rfl)) (fun w' hC => (small_at m w').mono (fun e w'' hh => by rw [Hm1.out] at hh; exact hh)) (by simp only [List.set_cons_zero, List.set_cons_succ]; rfl) ?_
  refine Fx.eff0 (fun w' => Ext w w' ∧ Obj_ w' B4 3 (msF m1)) (fun _ _ h k => ⟨h.1.trans k, h.2.ext k⟩) rfl rfl (fun w' hC => stepAt_store_Ms (HEb.out.trans hC) HB4.out (HOb.out.ext hC) m1 rfl rfl) ?_
  refine Fx.done (fun wc hC => ?_)
  have HEc := Lib.hid hC.1
  have HOc := Lib.hid hC.2
  clear hC d0 d1 d2 dl HOb HEb
  go_upto_region 4 with (go_at_call 22; refine (newQ_at _ _).mono ?_; rintro e wd ⟨b, mn, rfl, hM, hE, h1, h2⟩; have H1 := Lib.hid (SqI.new hM (HEc.out.trans hE) (Nat.le_trans HEc.out.size h1) (Nat.le_trans HEc.out.size h2)); have HNb := Lib.hid (And.intro h1 h2); have HEd := Lib.hid hE; clear hM hE h1 h2)
  obtain ⟨E1, hE1⟩ : ∃ E1, numE m1 = E1 := ⟨_, rfl⟩
  obtain ⟨x1, hx1⟩ : ∃ x1, numX2 (sq0 e0) m1 = x1 := ⟨_, rfl⟩
  obtain ⟨s1, hs1⟩ : ∃ s1, numS2 (sq0 e0) m1 = s1 := ⟨_, rfl⟩
  have HEE4 := Lib.hid hE1
  have HXX4 := Lib.hid hx1
  have HS4 := Lib.hid hs1
  have HL4 : Hid ((sq0 e0).all.length ≤ 999999) := Lib.hid (by simp [sq0])
  have HOd := Lib.hid (HOc.out.ext HEd.out)
  have hB4c := HOc.out.lt
  have hnF : ¬ FQ b mn (.slice none 0 0) B4 := fun h => by
    have := HNb.out.1
    have := HNb.out.2
    rcases h with h | h | h
    · omega
    · omega
    · simp [Value.ownBlock] at h
  have hB4d : B4 < wd.heap.size := HOd.out.lt
  obtain ⟨d0, d1, d2⟩ := HOd.out.ms
  have dl := HOd.out.lt
  obtain ⟨av0, hav0⟩ : ∃ av0, Value.slice none 0 0 = av0 := ⟨_, rfl⟩
  rw [hav0] at H1 hnF
  have HnF := Lib.hid hnF
  have HB4d := Lib.hid hB4d
  clear hE1 hx1 hs1 hnF HOc hav0 hB4c hB4d HNb HEd
  go_upto_region 4 with fail
  refine wp_region_line [(0,0),(1,1),(2,3),(3,0),(4,0),(5,0),(6,2),(7,3),(8,0)] (by kernel_rfl) (by kernel_rfl) (Ext wd) (fun _ _ h k => h.trans k) (Ext.refl _) ?_
  first
    | refine Fx.skip rfl rfl (by simp only [List.set_cons_zero, List.set_cons_succ]; rfl) ?_
    | (with_reducible refine Fx.lab0 ?_
       first
         | refine Fx.moveT rfl rfl rfl (by simp only [List.set_cons_zero, List.set_cons_succ]; rfl) ?_
         | refine Fx.assignT rfl rfl rfl (by simp only [List.set_cons_zero, List.set_cons_succ]; rfl) ?_
         | refine Fx.pure_ rfl rfl (fun _ => by go_simp; first | done | rfl) (by simp only [List.set_cons_zero, List.set_cons_succ]; rfl) ?_)
    | (with_reducible refine Fx.lab1 ?_
       refine Fx.look rfl rfl (fun w' hC => by obtain ⟨hc, hf, hl⟩ := Ext.cells hC; go_simp; rfl) (by simp only [List.set_cons_zero, List.set_cons_succ]; rfl) ?_)
  refine Fx.look rfl rfl (op_load_Ms' (m := m1) dl d0 d1 d2 rfl) (by simp only [List.set_cons_zero, List.set_cons_succ]; rfl) ?_
  refine Fx.effBy (β := Value) (fun _ => .tuple #[x1.val, .int .i64 E1]) (fun av' w' => SqI w b mn av' s1 w' ∧ Mods (FQ b mn av0) wd w' ∧ ∀ x, av'.ownBlock = some x → av0.ownBlock = some x ∨ wd.heap.size ≤ x) ⟨undef⟩ (fun _ _ _ h k => ⟨h.1.ext' k, h.2.1.then_ k, h.2.2⟩) rfl rfl (fun w' hC => ?_) (fun av1 => ?_)
  · unfold stepAt
    rw [show (execOp _ _).run Try.prog w' = .ok (.enter 23 #[.pointer (some ⟨b, 0, none⟩), m1.val]) w' from by first | (go_simp; done) | (go_simp; rfl)]
    refine (num_any (H1.out.p.ext hC) H1.out.ok HL4.out m1).mono (fun e w'' hh => ?_)
    obtain ⟨av', rfl, h1, h2, h3⟩ := hh
    rw [HS4.out] at h1
    have hok := numS2_ok H1.out.ok HL4.out m1
    rw [HS4.out] at hok
    have hstep := (H1.out.ext' hC).step h1 hok h2 h3
    exact ⟨_, rfl, av', by rw [HXX4.out, HEE4.out], hstep, h2.after hC, fun x hx => (h3 x hx).imp id (fun h => Nat.le_trans hC.size h)⟩
  simp only [List.set_cons_zero, List.set_cons_succ]
  iterate 3
    first
      | refine Fx.skip rfl rfl (by simp only [List.set_cons_zero, List.set_cons_succ]; rfl) ?_
      | (with_reducible refine Fx.lab0 ?_
         first
           | refine Fx.moveT rfl rfl rfl (by simp only [List.set_cons_zero, List.set_cons_succ]; rfl) ?_
           | refine Fx.assignT rfl rfl rfl (by simp only [List.set_cons_zero, List.set_cons_succ]; rfl) ?_
           | refine Fx.pure_ rfl rfl (fun _ => by go_simp; first | done | rfl) (by simp only [List.set_cons_zero, List.set_cons_succ]; rfl) ?_)
      | (with_reducible refine Fx.lab1 ?_
         refine Fx.look rfl rfl (fun w' hC => by obtain ⟨hc, hf, hl⟩ := Ext.cells hC; go_simp; rfl) (by simp only [List.set_cons_zero, List.set_cons_succ]; rfl) ?_)
  refine Fx.mkPtr (fun B w' => ¬ FQ b mn av1 B ∧ w.heap.size ≤ B ∧ wd.heap.size ≤ B ∧ Obj_ w' B 5 (nbF nb0)) (fun B _ _ h k => ⟨h.1, h.2.1, h.2.2.1, h.2.2.2.ext k⟩) rfl rfl (fun w' hC => stepAt_mono (stepAt_alloc_Nb (Ext.refl w')) (fun u w'' hh => by
    obtain ⟨B, h1, h2, h3, h4⟩ := hh
    exact ⟨B, h1, h2, fun h => by have := hC.1.p.lt h; omega, Nat.le_trans hC.1.e.size h3, Nat.le_trans hC.2.1.size h3, h4⟩)) (fun B9 => ?_)
  simp only [List.set_cons_zero, List.set_cons_succ]
  refine Fx.eff0 (fun w' => SqI w b mn av1 s1 w' ∧ Mods (FQ b mn av0) wd w' ∧ (∀ x, av1.ownBlock = some x → av0.ownBlock = some x ∨ wd.heap.size ≤ x) ∧ ¬ FQ b mn av1 B9 ∧ wd.heap.size ≤ B9 ∧ Obj_ w' B9 5 (nbF x1)) (fun _ _ h k => ⟨h.1.ext' k, h.2.1.then_ k, h.2.2.1, h.2.2.2.1, h.2.2.2.2.1, h.2.2.2.2.2.ext k⟩) rfl rfl (fun w' hC => stepAt_mono (stepAt_put_Nb hC.2.2.2.2 x1 rfl rfl) (fun _ w'' hh => ?_)) ?_
  · obtain ⟨⟨i1, i2, i3⟩, j1, j2, j3, j4⟩ := hC
    exact ⟨⟨i1.p.mods hh.1 (fun z hz e => j1 (by rw [← e]; exact hz)), i1.ok, i1.fr, ((i1.e.mods _).trans hh.1 (fun _ _ h => h)).ext_of (fun z hz e => by omega)⟩, i2.trans hh.1 (fun z hz e => by omega), i3, j1, j3, hh.2⟩
  first
    | refine Fx.skip rfl rfl (by simp only [List.set_cons_zero, List.set_cons_succ]; rfl) ?_
    | (with_reducible refine Fx.lab0 ?_
       first
         | refine Fx.moveT rfl rfl rfl (by simp only [List.set_cons_zero, List.set_cons_succ]; rfl) ?_
         | refine Fx.assignT rfl rfl rfl (by simp only [List.set_cons_zero, List.set_cons_succ]; rfl) ?_
         | refine Fx.pure_ rfl rfl (fun _ => by go_simp; first | done | rfl) (by simp only [List.set_cons_zero, List.set_cons_succ]; rfl) ?_)
    | (with_reducible refine Fx.lab1 ?_
       refine Fx.look rfl rfl (fun w' hC => by obtain ⟨hc, hf, hl⟩ := Ext.cells hC; go_simp; rfl) (by simp only [List.set_cons_zero, List.set_cons_succ]; rfl) ?_)
  refine Fx.done (fun we hC => ?_)
  have H2 := Lib.hid hC.1
  have M4 := Lib.hid hC.2.1
  have A4 := Lib.hid hC.2.2.1
  have NB9 := Lib.hid hC.2.2.2.1
  have GB9 := Lib.hid hC.2.2.2.2.1
  have OB9 := Lib.hid hC.2.2.2.2.2
  clear hC d0 d1 d2 dl
  have HOe := Lib.hid (HOd.out.mods M4.out HnF.out)
  have hc2 := HOe.out.cell 2 (by decide)
  have hf2 := HOe.out.free 2
  have hl2 := HOe.out.lt
  replace hc2 : we.cell? ⟨B4, 2, none⟩ = some (.string m1.d) := hc2
  clear HOd
  go_upto_region 5 with fail
  refine wp_region_line [(0,0),(1,0),(2,0),(3,0),(4,0),(5,0),(6,3)] (by kernel_rfl) (by kernel_rfl) (Ext we) (fun _ _ h k => h.trans k) (Ext.refl _) ?_
  iterate 4
    first
      | refine Fx.skip rfl rfl (by simp only [List.set_cons_zero, List.set_cons_succ]; rfl) ?_
      | (with_reducible refine Fx.lab0 ?_
         first
           | refine Fx.moveT rfl rfl rfl (by simp only [List.set_cons_zero, List.set_cons_succ]; rfl) ?_
           | refine Fx.assignT rfl rfl rfl (by simp only [List.set_cons_zero, List.set_cons_succ]; rfl) ?_
           | refine Fx.pure_ rfl rfl (fun _ => by go_simp; first | done | rfl) (by simp only [List.set_cons_zero, List.set_cons_succ]; rfl) ?_)
      | (with_reducible refine Fx.lab1 ?_
         refine Fx.look rfl rfl (fun w' hC => by obtain ⟨hc, hf, hl⟩ := Ext.cells hC; go_simp; rfl) (by simp only [List.set_cons_zero, List.set_cons_succ]; rfl) ?_)
  refine Fx.pure_ (v := .string (s.extract 0 mn2)) rfl rfl (fun _ => by go_simp) (by simp only [List.set_cons_zero, List.set_cons_succ]; rfl) ?_
  first
    | refine Fx.skip rfl rfl (by simp only [List.set_cons_zero, List.set_cons_succ]; rfl) ?_
    | (with_reducible refine Fx.lab0 ?_
       first
         | refine Fx.moveT rfl rfl rfl (by simp only [List.set_cons_zero, List.set_cons_succ]; rfl) ?_
         | refine Fx.assignT rfl rfl rfl (by simp only [List.set_cons_zero, List.set_cons_succ]; rfl) ?_
         | refine Fx.pure_ rfl rfl (fun _ => by go_simp; first | done | rfl) (by simp only [List.set_cons_zero, List.set_cons_succ]; rfl) ?_)
    | (with_reducible refine Fx.lab1 ?_
       refine Fx.look rfl rfl (fun w' hC => by obtain ⟨hc, hf, hl⟩ := Ext.cells hC; go_simp; rfl) (by simp only [List.set_cons_zero, List.set_cons_succ]; rfl) ?_)
  refine Fx.store ⟨B4, 2, none⟩ (.string (s.extract 0 mn2)) rfl rfl (fun w' hC => by
    obtain ⟨hc, hf, hl⟩ := hC.cells
    have e1 := (hc _ 2 hl2).trans hc2
    have e2 := (hf _ 2 hl2).trans hf2
    clear hc hf hl
    go_simp) ?_
  refine Fx.done (fun wf hC => ?_)
  obtain ⟨w', y1, y2⟩ := hC
  obtain ⟨m2, hm2⟩ : ∃ m2 : Ms, (⟨m1.f, m1.c, s.extract 0 mn2⟩ : Ms) = m2 := ⟨_, rfl⟩
  have mf : Mods (· = B4) we wf := (y1.mods _).trans ((Mods.setCell w' B4 2 _).then_ y2) (fun _ _ h => h)
  have hOf : Obj_ wf B4 3 (msF m2) := (((HOe.out.ext y1).set (i := 2) (by decide) (.string (s.extract 0 mn2))).ext y2).congr (fun i hi => by
    rw [← hm2]
    match i, hi with
    | 0, _ => rfl
    | 1, _ => rfl
    | 2, _ => rfl)
  have hbw := HB4.out
  have hF1 : ¬ FQ b mn av1 B4 := fun h => by
    rcases h with h | h | h
    · exact HnF.out (.inl h)
    · exact HnF.out (.inr (.inl h))
    · rcases A4.out _ h with e | e
      · exact HnF.out (.inr (.inr e))
      · have := HB4d.out; omega
  have H3 := Lib.hid (show SqI w b mn av1 s1 wf from ⟨H2.out.p.mods mf (fun z hz e => hF1 (by rw [← e]; exact hz)), H2.out.ok, H2.out.fr, ((H2.out.e.mods _).trans mf (fun _ _ h => h)).ext_of (fun z hz e => by omega)⟩)
  have OB9' := Lib.hid (OB9.out.mods mf (fun e => by have := GB9.out; have := HB4d.out; omega))
  clear OB9
  have OB9 := OB9'
  clear OB9'
  obtain ⟨E2, hE2⟩ : ∃ E2, numE m2 = E2 := ⟨_, rfl⟩
  obtain ⟨x2, hx2⟩ : ∃ x2, numX2 s1 m2 = x2 := ⟨_, rfl⟩
  obtain ⟨s2, hs2⟩ : ∃ s2, numS2 s1 m2 = s2 := ⟨_, rfl⟩
  have HEE6 := Lib.hid hE2
  have HXX6 := Lib.hid hx2
  have HS6 := Lib.hid hs2
  have HL6 : Hid (s1.all.length ≤ 999999) := Lib.hid (by rw [← HS4.out]; have := numS2_len (sq0 e0) m1; simp [sq0] at this ⊢; omega)
  have Hm2 := Lib.hid hm2
  obtain ⟨d0, d1, d2⟩ := hOf.ms
  have dl := hOf.lt
  clear y1 y2 mf hOf hc2 hf2 hl2 hF1 hE2 hx2 hs2 hm2
  go_upto_region 6 with fail
  refine wp_region_line [(0,0),(1,1),(2,3),(3,0),(4,0),(5,0),(6,2),(7,3),(8,0)] (by kernel_rfl) (by kernel_rfl) (Ext wf) (fun _ _ h k => h.trans k) (Ext.refl _) ?_
  first
    | refine Fx.skip rfl rfl (by simp only [List.set_cons_zero, List.set_cons_succ]; rfl) ?_
    | (with_reducible refine Fx.lab0 ?_
       first
         | refine Fx.moveT rfl rfl rfl (by simp only [List.set_cons_zero, List.set_cons_succ]; rfl) ?_
         | refine Fx.assignT rfl rfl rfl (by simp only [List.set_cons_zero, List.set_cons_succ]; rfl) ?_
         | refine Fx.pure_ rfl rfl (fun _ => by go_simp; first | done | rfl) (by simp only [List.set_cons_zero, List.set_cons_succ]; rfl) ?_)
    | (with_reducible refine Fx.lab1 ?_
       refine Fx.look rfl rfl (fun w' hC => by obtain ⟨hc, hf, hl⟩ := Ext.cells hC; go_simp; rfl) (by simp only [List.set_cons_zero, List.set_cons_succ]; rfl) ?_)
  refine Fx.look rfl rfl (op_load_Ms' (m := m2) dl d0 d1 d2 rfl) (by simp only [List.set_cons_zero, List.set_cons_succ]; rfl) ?_
  refine Fx.effBy (β := Value) (fun _ => .tuple #[x2.val, .int .i64 E2]) (fun av' w' => SqI w b mn av' s2 w' ∧ Mods (FQ b mn av1) wf w' ∧ ∀ x, av'.ownBlock = some x → av1.ownBlock = some x ∨ wf.heap.size ≤ x) ⟨undef⟩ (fun _ _ _ h k => ⟨h.1.ext' k, h.2.1.then_ k, h.2.2⟩) rfl rfl (fun w' hC => ?_) (fun av2 => ?_)
  · unfold stepAt
    rw [show (execOp _ _).run Try.prog w' = .ok (.enter 23 #[.pointer (some ⟨b, 0, none⟩), m2.val]) w' from by first | (go_simp; done) | (go_simp; rfl)]
    refine (num_any (H3.out.p.ext hC) H3.out.ok HL6.out m2).mono (fun e w'' hh => ?_)
    obtain ⟨av', rfl, h1, h2, h3⟩ := hh
    rw [HS6.out] at h1
    have hok := numS2_ok H3.out.ok HL6.out m2
    rw [HS6.out] at hok
    have hstep := (H3.out.ext' hC).step h1 hok h2 h3
    exact ⟨_, rfl, av', by rw [HXX6.out, HEE6.out], hstep, h2.after hC, fun x hx => (h3 x hx).imp id (fun h => Nat.le_trans hC.size h)⟩
  simp only [List.set_cons_zero, List.set_cons_succ]
  iterate 3
    first
      | refine Fx.skip rfl rfl (by simp only [List.set_cons_zero, List.set_cons_succ]; rfl) ?_
      | (with_reducible refine Fx.lab0 ?_
         first
           | refine Fx.moveT rfl rfl rfl (by simp only [List.set_cons_zero, List.set_cons_succ]; rfl) ?_
           | refine Fx.assignT rfl rfl rfl (by simp only [List.set_cons_zero, List.set_cons_succ]; rfl) ?_
           | refine Fx.pure_ rfl rfl (fun _ => by go_simp; first | done | rfl) (by simp only [List.set_cons_zero, List.set_cons_succ]; rfl) ?_)
      | (with_reducible refine Fx.lab1 ?_
         refine Fx.look rfl rfl (fun w' hC => by obtain ⟨hc, hf, hl⟩ := Ext.cells hC; go_simp; rfl) (by simp only [List.set_cons_zero, List.set_cons_succ]; rfl) ?_)
  refine Fx.mkPtr (fun B w' => ¬ FQ b mn av2 B ∧ w.heap.size ≤ B ∧ wf.heap.size ≤ B ∧ Obj_ w' B 5 (nbF nb0)) (fun B _ _ h k => ⟨h.1, h.2.1, h.2.2.1, h.2.2.2.ext k⟩) rfl rfl (fun w' hC => stepAt_mono (stepAt_alloc_Nb (Ext.refl w')) (fun u w'' hh => by
    obtain ⟨B, h1, h2, h3, h4⟩ := hh
    exact ⟨B, h1, h2, fun h => by have := hC.1.p.lt h; omega, Nat.le_trans hC.1.e.size h3, Nat.le_trans hC.2.1.size h3, h4⟩)) (fun B11 => ?_)
  simp only [List.set_cons_zero, List.set_cons_succ]
  refine Fx.eff0 (fun w' => SqI w b mn av2 s2 w' ∧ Mods (FQ b mn av1) wf w' ∧ (∀ x, av2.ownBlock = some x → av1.ownBlock = some x ∨ wf.heap.size ≤ x) ∧ ¬ FQ b mn av2 B11 ∧ wf.heap.size ≤ B11 ∧ Obj_ w' B11 5 (nbF x2)) (fun _ _ h k => ⟨h.1.ext' k, h.2.1.then_ k, h.2.2.1, h.2.2.2.1, h.2.2.2.2.1, h.2.2.2.2.2.ext k⟩) rfl rfl (fun w' hC => stepAt_mono (stepAt_put_Nb hC.2.2.2.2 x2 rfl rfl) (fun _ w'' hh => ?_)) ?_
  · obtain ⟨⟨i1, i2, i3⟩, j1, j2, j3, j4⟩ := hC
    exact ⟨⟨i1.p.mods hh.1 (fun z hz e => j1 (by rw [← e]; exact hz)), i1.ok, i1.fr, ((i1.e.mods _).trans hh.1 (fun _ _ h => h)).ext_of (fun z hz e => by omega)⟩, i2.trans hh.1 (fun z hz e => by omega), i3, j1, j3, hh.2⟩
  first
    | refine Fx.skip rfl rfl (by simp only [List.set_cons_zero, List.set_cons_succ]; rfl) ?_
    | (with_reducible refine Fx.lab0 ?_
       first
         | refine Fx.moveT rfl rfl rfl (by simp only [List.set_cons_zero, List.set_cons_succ]; rfl) ?_
         | refine Fx.assignT rfl rfl rfl (by simp only [List.set_cons_zero, List.set_cons_succ]; rfl) ?_
         | refine Fx.pure_ rfl rfl (fun _ => by go_simp; first | done | rfl) (by simp only [List.set_cons_zero, List.set_cons_succ]; rfl) ?_)
    | (with_reducible refine Fx.lab1 ?_
       refine Fx.look rfl rfl (fun w' hC => by obtain ⟨hc, hf, hl⟩ := Ext.cells hC; go_simp; rfl) (by simp only [List.set_cons_zero, List.set_cons_succ]; rfl) ?_)
  refine Fx.done (fun wg hC => ?_)
  have H4 := Lib.hid hC.1
  have M6 := Lib.hid hC.2.1
  have A6 := Lib.hid hC.2.2.1
  have NB11 := Lib.hid hC.2.2.2.1
  have GB11 := Lib.hid hC.2.2.2.2.1
  have OB11 := Lib.hid hC.2.2.2.2.2
  clear hC d0 d1 d2 dl
  have OB9' := Lib.hid (OB9.out.mods M6.out NB9.out)
  clear OB9 NB9
  have OB9 := OB9'
  clear OB9'
  cases hr : rightB m1 with
  | false =>
    have hE1 : E1 = 100 := by rw [← HEE4.out]; unfold numE; rw [hr]; rfl
    subst hE1
    clear hr
    go_wp2
    go_ret
    exact ⟨rfl, H4.out.e⟩
  | true =>
    obtain ⟨g1, g2, g3, g4, g5⟩ := twice_plain e0 m1 m2 (by rw [← Hm2.out]) (by rw [← Hm2.out]) (by rw [← Hm2.out]; show (s.extract 0 mn2).size ≤ 1000; rw [ByteArray.size_extract]; omega) hr
    rw [HEE4.out] at g1
    rw [HEE6.out] at g2
    rw [HXX4.out] at g3
    rw [HS4.out, HXX6.out] at g4
    rw [HS4.out, HS6.out] at g5
    have h12 : x2 = x1 := by rw [g3, g4]
    subst h12
    subst g1
    subst g2
    have Hg5 := Lib.hid g5
    have k9 := OB9.out.nb
    have l9 := OB9.out.lt
    have k11 := OB11.out.nb
    have l11 := OB11.out.lt
    have n0 := k9.c0
    have n1 := k9.c1
    simp only [Nat.zero_add] at n1
    rw [g3] at n0 n1
    simp only at n0 n1
    clear hr g3 g4 g5
    go_upto_region 9 with fail
    refine wp_region_line [(0,0),(1,0),(2,0),(3,0),(4,0),(5,0),(6,1),(7,1),(8,0),(9,0),(10,0),(11,0),(12,2),(13,0),(14,0),(15,0),(16,0),(17,0),(18,1),(19,0),(20,0),(21,0),(22,0),(23,1),(24,0),(25,0),(26,0),(27,0)] (by kernel_rfl) (by kernel_rfl) (Ext wg) (fun _ _ h k => h.trans k) (Ext.refl _) ?_
    iterate 6
      first
        | refine Fx.skip rfl rfl (by simp only [List.set_cons_zero, List.set_cons_succ]; rfl) ?_
        | (with_reducible refine Fx.lab0 ?_
           first
             | refine Fx.moveT rfl rfl rfl (by simp only [List.set_cons_zero, List.set_cons_succ]; rfl) ?_
             | refine Fx.assignT rfl rfl rfl (by simp only [List.set_cons_zero, List.set_cons_succ]; rfl) ?_
             | refine Fx.pure_ rfl rfl (fun _ => by go_simp; first | done | rfl) (by simp only [List.set_cons_zero, List.set_cons_succ]; rfl) ?_)
        | (with_reducible refine Fx.lab1 ?_
           refine Fx.look rfl rfl (fun w' hC => by obtain ⟨hc, hf, hl⟩ := Ext.cells hC; go_simp; rfl) (by simp only [List.set_cons_zero, List.set_cons_succ]; rfl) ?_)
    refine Fx.look rfl rfl (op_load_Nb' (m := x2) l9 k9 rfl) (by simp only [List.set_cons_zero, List.set_cons_succ]; rfl) ?_
    refine Fx.look rfl rfl (op_load_Nb' (m := x2) l11 k11 rfl) (by simp only [List.set_cons_zero, List.set_cons_succ]; rfl) ?_
    refine Fx.pure_ (v := .bool true) rfl rfl (fun w => by rw [op_eql_Nb x2 x2 rfl rfl]; simp) (by simp only [List.set_cons_zero, List.set_cons_succ]; rfl) ?_
    iterate 3
      first
        | refine Fx.skip rfl rfl (by simp only [List.set_cons_zero, List.set_cons_succ]; rfl) ?_
        | (with_reducible refine Fx.lab0 ?_
           first
             | refine Fx.moveT rfl rfl rfl (by simp only [List.set_cons_zero, List.set_cons_succ]; rfl) ?_
             | refine Fx.assignT rfl rfl rfl (by simp only [List.set_cons_zero, List.set_cons_succ]; rfl) ?_
             | refine Fx.pure_ rfl rfl (fun _ => by go_simp; first | done | rfl) (by simp only [List.set_cons_zero, List.set_cons_succ]; rfl) ?_)
        | (with_reducible refine Fx.lab1 ?_
           refine Fx.look rfl rfl (fun w' hC => by obtain ⟨hc, hf, hl⟩ := Ext.cells hC; go_simp; rfl) (by simp only [List.set_cons_zero, List.set_cons_succ]; rfl) ?_)
    refine Fx.mkBy (fun x : Option Addr × Nat => .slice x.1 1 x.2) (fun _ _ => True) (fun _ _ _ h _ => h) rfl rfl (fun w' hC => ?_) (fun p => ?_)
    · unfold stepAt
      rw [show (execOp _ _).run Try.prog w' = .ok (.enter 24 #[.pointer (some ⟨b, 0, none⟩)]) w' from by first | (go_simp; done) | (go_simp; rfl)]
      exact (all_at (H4.out.p.ext hC) (by have := Hg5.out; omega)).mono (fun e w'' hh => by
        obtain ⟨v', rfl, h1, h2, h3⟩ := hh
        obtain ⟨A', c', rfl, -⟩ := h1.val
        exact ⟨_, rfl, (A', c'), by rw [Hg5.out], h2, trivial⟩)
    simp only [List.set_cons_zero, List.set_cons_succ]
    iterate 5
      first
        | refine Fx.skip rfl rfl (by simp only [List.set_cons_zero, List.set_cons_succ]; rfl) ?_
        | (with_reducible refine Fx.lab0 ?_
           first
             | refine Fx.moveT rfl rfl rfl (by simp only [List.set_cons_zero, List.set_cons_succ]; rfl) ?_
             | refine Fx.assignT rfl rfl rfl (by simp only [List.set_cons_zero, List.set_cons_succ]; rfl) ?_
             | refine Fx.pure_ rfl rfl (fun _ => by go_simp; first | done | rfl) (by simp only [List.set_cons_zero, List.set_cons_succ]; rfl) ?_)
        | (with_reducible refine Fx.lab1 ?_
           refine Fx.look rfl rfl (fun w' hC => by obtain ⟨hc, hf, hl⟩ := Ext.cells hC; go_simp; rfl) (by simp only [List.set_cons_zero, List.set_cons_succ]; rfl) ?_)
    refine Fx.look rfl rfl (fun w' hC => by obtain ⟨hc, hf, hl⟩ := Ext.cells hC.1; go_simp; rfl) (by simp only [List.set_cons_zero, List.set_cons_succ]; rfl) ?_
    iterate 4
      first
        | refine Fx.skip rfl rfl (by simp only [List.set_cons_zero, List.set_cons_succ]; rfl) ?_
        | (with_reducible refine Fx.lab0 ?_
           first
             | refine Fx.moveT rfl rfl rfl (by simp only [List.set_cons_zero, List.set_cons_succ]; rfl) ?_
             | refine Fx.assignT rfl rfl rfl (by simp only [List.set_cons_zero, List.set_cons_succ]; rfl) ?_
             | refine Fx.pure_ rfl rfl (fun _ => by go_simp; first | done | rfl) (by simp only [List.set_cons_zero, List.set_cons_succ]; rfl) ?_)
        | (with_reducible refine Fx.lab1 ?_
           refine Fx.look rfl rfl (fun w' hC => by obtain ⟨hc, hf, hl⟩ := Ext.cells hC; go_simp; rfl) (by simp only [List.set_cons_zero, List.set_cons_succ]; rfl) ?_)
    refine Fx.look rfl rfl (fun w' hC => by obtain ⟨hc, hf, hl⟩ := Ext.cells hC.1; go_simp; rfl) (by simp only [List.set_cons_zero, List.set_cons_succ]; rfl) ?_
    iterate 4
      first
        | refine Fx.skip rfl rfl (by simp only [List.set_cons_zero, List.set_cons_succ]; rfl) ?_
        | (with_reducible refine Fx.lab0 ?_
           first
             | refine Fx.moveT rfl rfl rfl (by simp only [List.set_cons_zero, List.set_cons_succ]; rfl) ?_
             | refine Fx.assignT rfl rfl rfl (by simp only [List.set_cons_zero, List.set_cons_succ]; rfl) ?_
             | refine Fx.pure_ rfl rfl (fun _ => by go_simp; first | done | rfl) (by simp only [List.set_cons_zero, List.set_cons_succ]; rfl) ?_)
        | (with_reducible refine Fx.lab1 ?_
           refine Fx.look rfl rfl (fun w' hC => by obtain ⟨hc, hf, hl⟩ := Ext.cells hC; go_simp; rfl) (by simp only [List.set_cons_zero, List.set_cons_succ]; rfl) ?_)
    refine Fx.done (fun wz hC => ?_)
    have HC := Lib.hid (H4.out.e.trans hC.1)
    clear hC k9 l9 k11 l11 n0 n1
    go_wp2
    go_ret
    exact ⟨by simp, HC.out⟩
end Go.Proofs.Ytokljdkeegdniaa
