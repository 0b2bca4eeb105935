/-
  rostrumlaw12.BatchDoes: what it computes.
-/
import Derived.Test.YtkkcdoajdhbofaaRefDone
import Derived.Test.YtkkcdoajdhbofaaOnceQ
namespace Go.Proofs.Ytkkcdoajdhbofaa
open Go.RowKit
attribute [local go_sem] Oper.semAt_some

structure DoI (w1 : World) (b mw md r : Nat) (pv dv : Value) (D : List (Int × Int)) (σ τ : PSt) (W : World) : Prop where
  x : PoolI w1 b mw md σ W
  v : RefV W r pv dv (pend τ) D
  t : ∀ j, decide (j ∈ D) = isB τ j
  fr : w1.heap.size ≤ r ∧ ¬ FP b mw md r
  fp : ∀ x, pv.ownBlock = some x → w1.heap.size ≤ x ∧ ¬ FP b mw md x
  fd : ∀ x, dv.ownBlock = some x → w1.heap.size ≤ x ∧ ¬ FP b mw md x
section
variable {w1 W W' : World} {b mw md r : Nat} {pv dv pv' dv' : Value} {D D' : List (Int × Int)} {σ σ' τ τ' : PSt}
theorem DoI.ext' (h : DoI w1 b mw md r pv dv D σ τ W) (he : Ext W W') : DoI w1 b mw md r pv dv D σ τ W' := ⟨h.x.ext' he, h.v.ext he, h.t, h.fr, h.fp, h.fd⟩
theorem DoI.stepX (h : DoI w1 b mw md r pv dv D σ τ W) (hp : PoolI w1 b mw md σ' W') (hm : Mods (FP b mw md) W W') : DoI w1 b mw md r pv dv D σ' τ W' :=
  ⟨hp, h.v.mods hm h.fr.2 (fun x hx => (h.fp x hx).2) (fun x hx => (h.fd x hx).2), h.t, h.fr, h.fp, h.fd⟩
theorem DoI.stepV (h : DoI w1 b mw md r pv dv D σ τ W) (hv : RefV W' r pv' dv' (pend τ') D') (ht : ∀ j, decide (j ∈ D') = isB τ' j) (hm : Mods (fun x => x = r ∨ dv.ownBlock = some x) W W')
    (hp : ∀ x, pv'.ownBlock = some x → pv.ownBlock = some x ∨ W.heap.size ≤ x) (hd : ∀ x, dv'.ownBlock = some x → dv.ownBlock = some x ∨ W.heap.size ≤ x) : DoI w1 b mw md r pv' dv' D' σ τ' W' := by
  have hs := h.x.e.size
  refine ⟨⟨h.x.p.mods hm (fun x hx e => e.elim (fun e => h.fr.2 (by rw [← e]; exact hx)) (fun e => (h.fd x e).2 hx)), h.x.ok, h.x.fr, ((h.x.e.mods _).trans hm (fun _ _ h => h)).ext_of (fun x hx e => e.elim (fun e => by have := h.fr.1; omega) (fun e => by have := (h.fd x e).1; omega))⟩, hv, ht, h.fr, fun x hx => ?_, fun x hx => ?_⟩
  · rcases hp x hx with e | e
    · exact h.fp x e
    · exact ⟨by omega, fun hf => by have := h.x.p.lt hf; omega⟩
  · rcases hd x hx with e | e
    · exact h.fd x e
    · exact ⟨by omega, fun hf => by have := h.x.p.lt hf; omega⟩
end
theorem tmod3 (u : Int) (h : 0 ≤ u) : u.tmod 3 = 0 ∨ u.tmod 3 = 1 ∨ u.tmod 3 = 2 := by
  rw [Int.tmod_eq_emod_of_nonneg h]; omega

theorem op_load_MsM {W : World} {S : Nat → Prop} {ρ : Operand → Value} {d : Option Tmp} {x : Operand} {t : TypeId} {s : String} {af : Array Edge} {g : Option (Nat × Bool)} {b o : Nat} {m : Ms} (hlt : b < W.heap.size) (hS : ¬ S b)
    (c0 : W.cell? ⟨b, o, none⟩ = some (.int .i64 m.f)) (c1 : W.cell? ⟨b, o + 1, none⟩ = some (.int .u32 m.c)) (c2 : W.cell? ⟨b, o + 2, none⟩ = some (.string m.d)) (hx : ρ x = .pointer (some ⟨b, o, none⟩)) (w : World) (hm : Mods S W w) :
    (execOp ρ ⟨d, .load 41 x, t, s, af, g⟩).run Try.prog w = .ok (.value m.val) w := by
  obtain ⟨hc, hf, hl⟩ := hm.cells
  exact op_load_Ms' (W := w) (hl _ hlt) ((hc _ _ hlt hS).trans c0) ((hc _ _ hlt hS).trans c1) ((hc _ _ hlt hS).trans c2) hx w (Ext.refl _)
set_option maxRecDepth 100000 in
set_option maxHeartbeats 12800000 in
theorem does_law (w : World) (v : Value) (l : List Ac) (id : Int × Int) (hl : AcL w v l) (hw : ∀ a ∈ l, Ac.Wf w a) : Calls Try.prog 3 #[v, .agg #[.int .i64 id.1, .int .u32 id.2]] w (LawP w) := by
  have HL0 := Lib.hid hl
  have HW0 := Lib.hid hw
  obtain ⟨A, cap, rfl, hcap, hmax⟩ := hl.val
  have hlen : l.length ≤ 9223372036854775807 := Nat.le_trans hcap (Nat.le_trans hmax (by decide))
  obtain ⟨idx, idy⟩ := id
  have hE0 := Ext.alloc w (.cells #[.int .i64 idx, .int .u32 idy] 25)
  have hbx := box_Id w idx idy
  have HE0 := Lib.hid hE0
  have HB0 := Lib.hid hbx
  clear hl hw hcap hmax hE0 hbx
  simp only
  go_enter Try.func3, Try.ntmps3
  generalize hW : w.alloc (.cells #[.int .i64 idx, .int .u32 idy] 25) = W at *
  go_upto_region 2 with (go_at_call 10; refine (shown_at _).mono ?_; rintro e w1 ⟨rfl, hE1⟩; have H1 := Lib.hid hE1; clear hE1)
  have HBx := Lib.hid (HB0.out.ext H1.out)
  have HE1 := Lib.hid (HE0.out.trans H1.out)
  have HL := Lib.hid (HL0.out.ext HE1.out)
  clear HB0 HE0 H1 HL0
  go_upto_region 3 with (go_at_call 11; refine (new_at _).mono ?_; rintro e w3 ⟨b, mw, md, rfl, hM, hE, hf⟩; have HI := Lib.hid (PoolI.new hM hE hf); clear hM hE hf)
  have ob := Obj_.new w3 33 #[.slice none 0 0, .slice none 0 0] (rvF (.slice none 0 0) (.slice none 0 0)) (by intro i hi; simp at hi; match i, hi with | 0, _ => rfl | 1, _ => rfl)
  have eb := Ext.alloc w3 (.cells #[.slice none 0 0, .slice none 0 0] 33)
  have HI3 : Hid (DoI w1 b mw md w3.heap.size (.slice none 0 0) (.slice none 0 0) [] p0 p0 (w3.alloc (.cells #[.slice none 0 0, .slice none 0 0] 33))) := Lib.hid
    ⟨HI.out.ext' eb, ⟨ob, by have : pend p0 = [] := rfl; rw [this]; exact Own.nil, Own.nil, fun x hx => by simp [Value.ownBlock] at hx, fun x hx => by simp [Value.ownBlock] at hx, fun x hx => by simp [Value.ownBlock] at hx⟩, fun j => by simp [isB, p0, kfind], ⟨HI.out.e.size, fun h => by have := HI.out.p.lt h; omega⟩, fun x hx => by simp [Value.ownBlock] at hx, fun x hx => by simp [Value.ownBlock] at hx⟩
  clear ob eb HI
  go_upto_region 4 with fail
  generalize w3.alloc (.cells #[.slice none 0 0, .slice none 0 0] 33) = w4 at *
  generalize w3.heap.size = r at *
  go_wp2
  go_loopw [8] (fun q wr => ∃ (i : Nat) (D : List (Int × Int)) (pv dv : Value) (σ : PSt), i ≤ l.length ∧ i ≤ 60 ∧ D.length ≤ 10 * i ∧ q = .int .i64 i ∧ Hid (DoI w1 b mw md r pv dv D σ σ wr)) (fun q _ => l.length - (intOf q).toNat)
  case atStart => exact ⟨0, [], _, _, p0, Nat.zero_le _, Nat.zero_le _, by simp, rfl, HI3⟩
  case round =>
    clear HI3
    obtain ⟨i, D, pv, dv, σ, hi, hi60, hD10, rfl, hI⟩ := hrel
    by_cases hgo : i < l.length ∧ i < 60
    · obtain ⟨hlt, hlt2⟩ := hgo
      have hlt2I : (i : Int) < 60 := by omega
      have hwi : IntKind.i64.wrap ((i : Int) + 1) = (i : Int) + 1 := IntWalk.i64_in _ ⟨by omega, by omega⟩
      obtain ⟨jb, joff, rfl, hjbl, j0, j1, j2⟩ := Sl.atA (HL.out.ext hI.out.x.e) hlt
      have hwf := HW0.out l[i] (List.getElem_mem _)
      generalize l[i] = a at *
      obtain ⟨ml, hml⟩ := hwf
      have HMl := Lib.hid (hml.ext (HE1.out.trans hI.out.x.e))
      obtain ⟨mA, mcap, hav, -⟩ := hml.val
      rw [hav] at j2 HMl
      clear hml hav
      go_upto_region 8 with (go_at_call 12; refine (few_at _ _ ml HMl.out).mono ?_; rintro e w4 ⟨fv, rfl, h1, h2, h3⟩; obtain ⟨fA, fcap, rfl, -⟩ := h1.val; have HF := Lib.hid h1; have HE4 := Lib.hid h2; have HFb := Lib.hid h3; clear h1 h2 h3)
      have hF10 := fewL_len ml
      have HI4 := Lib.hid (hI.out.ext' HE4.out)
      have hfo : ∀ x, Value.ownBlock (.slice fA (fewL ml).length fcap) = some x → ¬ FP b mw md x ∧ x ≠ r ∧ dv.ownBlock ≠ some x := fun x hx => by
        have h1 := HFb.out x hx
        exact ⟨fun h => by have := hI.out.x.p.lt h; omega, fun h => by have := hI.out.v.cells.2.2; omega, fun h => by have := hI.out.v.d.lt h; omega⟩
      have HFo := Lib.hid hfo
      obtain ⟨M, hM⟩ : ∃ M, fewL ml = M := ⟨_, rfl⟩
      rw [hM] at HF hF10 HFo ⊢
      obtain ⟨xc, xf, xl⟩ := HE4.out.cells
      replace j0 := (xc _ _ hjbl).trans j0
      replace j1 := (xc _ _ hjbl).trans j1
      replace hjbl := xl _ hjbl
      obtain ⟨ux, hux⟩ : ∃ ux, IntKind.u64.wrap a.k = ux := ⟨_, rfl⟩
      have hux0 : 0 ≤ ux := by rw [← hux, IntKind.wrap_u64]; omega
      obtain ⟨r3, hr3⟩ : ∃ r3, ux.tmod 3 = r3 := ⟨_, rfl⟩
      have hr3w := tmod3 ux hux0
      rw [hr3] at hr3w
      have HD10 : Hid (D.length ≤ 10 * (i + 1)) := Lib.hid (by omega)
      have HD10s : Hid (D.length ≤ 10 * i) := Lib.hid hD10
      clear xc xf xl hfo hI j2 hM HMl hD10
      rcases hr3w with rfl | rfl | rfl
      · by_cases hMl : 0 < M.length
        · obtain ⟨fb, foff, rfl, hfbl, g0, g1, g2⟩ := Sl.at3 (HF.out.sl Ms.len) hMl
          obtain ⟨m, hm⟩ : ∃ m, M[0] = m := ⟨_, rfl⟩
          rw [hm] at g0 g1 g2
          have hMlI : (0 : Int) < (M.length : Int) := by omega
          simp only [Nat.zero_mul, Nat.add_zero] at g0 g1 g2
          clear hm
          have hfS : ¬ (FP b mw md fb ∨ fb = r ∨ dv.ownBlock = some fb) := fun h => by
            have := HFo.out fb rfl
            rcases h with h | h | h
            · exact this.1 h
            · exact this.2.1 h
            · exact this.2.2 h
          go_upto_region 10 with fail
          refine wp_region_planC [(0,0),(1,0),(2,0),(3,0),(4,0),(5,0),(6,0),(7,3),(9,0),(10,0),(11,0),(12,3),(8,4),(13,4),(14,0),(15,0)] (by kernel_rfl) (by kernel_rfl) (by kernel_rfl) (G := fun w' => Mods (fun x => FP b mw md x ∨ x = r ∨ dv.ownBlock = some x) w4 w') (Ext w4) (fun w' h => h.mods _) (Ext.drawn _ _) ?_
          iterate 7
            first
              | refine Gx.skip rfl rfl (by simp only [List.set_cons_zero, List.set_cons_succ]; rfl) ?_
              | (with_reducible refine Gx.lab0 ?_
                 first
                   | refine Gx.moveT rfl rfl rfl (by simp only [List.set_cons_zero, List.set_cons_succ]; rfl) ?_
                   | refine Gx.assignT rfl rfl rfl (by simp only [List.set_cons_zero, List.set_cons_succ]; rfl) ?_
                   | refine Gx.pure_ rfl rfl (fun _ => by go_simp; first | done | rfl) (by simp only [List.set_cons_zero, List.set_cons_succ]; rfl) ?_)
          refine Gx.lookG rfl rfl (op_load_MsM (m := m) hfbl hfS g0 g1 g2 rfl) (by simp only [List.set_cons_zero, List.set_cons_succ]; rfl) ?_
          iterate 3
            first
              | refine Gx.skip rfl rfl (by simp only [List.set_cons_zero, List.set_cons_succ]; rfl) ?_
              | (with_reducible refine Gx.lab0 ?_
                 first
                   | refine Gx.moveT rfl rfl rfl (by simp only [List.set_cons_zero, List.set_cons_succ]; rfl) ?_
                   | refine Gx.assignT rfl rfl rfl (by simp only [List.set_cons_zero, List.set_cons_succ]; rfl) ?_
                   | refine Gx.pure_ rfl rfl (fun _ => by go_simp; first | done | rfl) (by simp only [List.set_cons_zero, List.set_cons_succ]; rfl) ?_)
          refine Gx.lookG rfl rfl (op_load_MsM (m := m) hfbl hfS g0 g1 g2 rfl) (by simp only [List.set_cons_zero, List.set_cons_succ]; rfl) ?_
          refine Gx.callB (.int .i64 (addE σ m)) (fun (_ : Unit) w' => DoI w1 b mw md r pv dv D (addS σ m) σ w' ∧ Mods (FP b mw md) w4 w') ⟨()⟩ (fun _ _ hR => hR.2.mono (fun _ _ h => .inl h))
            (args := #[.pointer (some ⟨b, 0, none⟩), m.val]) rfl rfl (fun _ => by first | (go_simp; done) | (go_simp; rfl)) (fun w' hC => (add_at (HI4.out.x.p.ext hC) HI4.out.x.ok.len m).mono (fun e w'' hh => ?_)) (by simp only [List.set_cons_zero, List.set_cons_succ]; rfl) (fun _ => ?_)
          · exact ⟨hh.1, (), (HI4.out.ext' hC).stepX ((HI4.out.ext' hC).x.step hh.2.1 (add_ok HI4.out.x.ok m) hh.2.2) hh.2.2, hh.2.2.after hC⟩
          refine Gx.callB (.int .i64 (addE σ m)) (fun (pv' : Value) w' => DoI w1 b mw md r pv' dv D (addS σ m) (addS σ m) w' ∧ Mods (fun x => FP b mw md x ∨ x = r ∨ dv.ownBlock = some x) w4 w') ⟨undef⟩ (fun _ _ hR => hR.2)
            (args := #[.pointer (some ⟨r, 0, none⟩), m.val]) rfl rfl (fun _ => by first | (go_simp; done) | (go_simp; rfl)) (fun w' hC => (add_ref hC.1.v HI4.out.x.ok ⟨rfl, hC.1.t⟩ (by have := HD10.out; omega) m).mono (fun e w'' hh => ?_)) (by simp only [List.set_cons_zero, List.set_cons_succ]; rfl) (fun pv9 => ?_)
          · obtain ⟨h1, pv', h2, h3, h4⟩ := hh
            exact ⟨h1, pv', hC.1.stepV h2 (fun j => by rw [hC.1.t j]; unfold isB; rw [addS_dn]) (h3.mono (T := fun x => x = r ∨ dv.ownBlock = some x) (fun x _ h => .inl h)) h4 (fun _ h => .inl h), (hC.2.mono (T := fun x => FP b mw md x ∨ x = r ∨ dv.ownBlock = some x) (fun _ _ h => .inl h)).trans h3 (fun _ _ h => .inr (.inl h))⟩
          iterate 2
            first
              | refine Gx.skip rfl rfl (by simp only [List.set_cons_zero, List.set_cons_succ]; rfl) ?_
              | (with_reducible refine Gx.lab0 ?_
                 first
                   | refine Gx.moveT rfl rfl rfl (by simp only [List.set_cons_zero, List.set_cons_succ]; rfl) ?_
                   | refine Gx.assignT rfl rfl rfl (by simp only [List.set_cons_zero, List.set_cons_succ]; rfl) ?_
                   | refine Gx.pure_ rfl rfl (fun _ => by go_simp; first | done | rfl) (by simp only [List.set_cons_zero, List.set_cons_succ]; rfl) ?_)
          refine Gx.done (fun w9 hC => ?_)
          have HI9 := Lib.hid hC.1
          have HDl := HD10
          clear hC g0 g1 g2 j0 j1 HFo hfS HI4 HD10 HD10s HFb HF
          generalize addS σ m = σ9 at *
          generalize D = D9 at *
          generalize dv = dv9 at *
          obtain ⟨pA, pcap, hpv, -⟩ := HI9.out.v.p.val
          subst hpv
          obtain ⟨x0, x1, lb⟩ := HI9.out.v.cells
          have hbq := HBx.out.ext HI9.out.x.e
          have e0 := hbq.cell 0 (by decide)
          have e1 := hbq.cell 1 (by decide)
          have el := hbq.lt
          simp only [idF, List.getD_cons_zero, List.getD_cons_succ] at e0 e1
          have hD9 : D9.length ≤ 1000000 := by have := HDl.out; omega
          have hp9 : (pend σ9).length ≤ 1000 := by rw [pend_len]; exact HI9.out.x.ok.len
          obtain ⟨qq, hqq⟩ : ∃ qq, isB σ9 (idx, idy) = qq := ⟨_, rfl⟩
          have Hqq := Lib.hid hqq
          have Hqd : Hid (decide ((idx, idy) ∈ D9) = qq) := Lib.hid (by rw [HI9.out.t]; exact hqq)
          have HP9 := Lib.hid hp9
          have HD9 := Lib.hid hD9
          clear hbq hD9 hp9 hqq
          go_upto_region 22 with fail
          refine wp_region_plan [(0,0),(2,0),(3,0),(4,0),(5,1),(1,2),(6,1),(7,0),(8,0),(9,0),(10,1),(11,1),(12,0),(13,1),(14,1),(15,0),(16,0)] (by kernel_rfl) (by kernel_rfl) (by kernel_rfl) (Ext w9) (fun _ _ h k => h.trans k) (Ext.drawn _ _) ?_
          iterate 5
            first
              | refine Fx.skip rfl rfl (by simp only [List.set_cons_zero, List.set_cons_succ]; rfl) ?_
              | (with_reducible refine Fx.lab0 ?_
                 first
                   | refine Fx.moveT rfl rfl rfl (by simp only [List.set_cons_zero, List.set_cons_succ]; rfl) ?_
                   | refine Fx.assignT rfl rfl rfl (by simp only [List.set_cons_zero, List.set_cons_succ]; rfl) ?_
                   | refine Fx.pure_ rfl rfl (fun _ => by go_simp; first | done | rfl) (by simp only [List.set_cons_zero, List.set_cons_succ]; rfl) ?_)
              | (with_reducible refine Fx.lab1 ?_
                 refine Fx.look rfl rfl (fun w' hC => by obtain ⟨hc, hf, hl⟩ := Ext.cells hC; go_simp; rfl) (by simp only [List.set_cons_zero, List.set_cons_succ]; rfl) ?_)
          refine Fx.mk (fun v' w' => OwnMs w' v' (pend σ9)) (fun _ _ _ h k => h.ext k) rfl rfl (fun w' hC => ?_) (fun va => ?_)
          · unfold stepAt
            rw [show (execOp _ _).run Try.prog w' = .ok (.enter 20 #[.pointer (some ⟨b, 0, none⟩)]) w' from by first | (go_simp; done) | (go_simp; rfl)]
            exact (pend_at (HI9.out.x.p.ext hC) HI9.out.x.ok).mono (fun e w'' hh => by
              obtain ⟨v', rfl, h1, h2, h3⟩ := hh
              exact ⟨_, rfl, h2, h1⟩)
          simp only [List.set_cons_zero, List.set_cons_succ]
          refine Fx.call1 (v := .bool true) (args := #[va, .slice pA (pend σ9).length pcap]) rfl rfl (fun _ => by first | (go_simp; done) | (go_simp; rfl)) (fun w' hC => (same_ref _ _ _ _ w' (hC.2.sl Ms.len) (HI9.out.v.ps.ext hC.1) (by have := HP9.out; omega)).mono (fun e w'' hh => by rw [show sameB (pend σ9) (pend σ9) = true by simp [sameB]] at hh; exact hh)) (by simp only [List.set_cons_zero, List.set_cons_succ]; rfl) ?_
          iterate 3
            first
              | refine Fx.skip rfl rfl (by simp only [List.set_cons_zero, List.set_cons_succ]; rfl) ?_
              | (with_reducible refine Fx.lab0 ?_
                 first
                   | refine Fx.moveT rfl rfl rfl (by simp only [List.set_cons_zero, List.set_cons_succ]; rfl) ?_
                   | refine Fx.assignT rfl rfl rfl (by simp only [List.set_cons_zero, List.set_cons_succ]; rfl) ?_
                   | refine Fx.pure_ rfl rfl (fun _ => by go_simp; first | done | rfl) (by simp only [List.set_cons_zero, List.set_cons_succ]; rfl) ?_)
              | (with_reducible refine Fx.lab1 ?_
                 refine Fx.look rfl rfl (fun w' hC => by obtain ⟨hc, hf, hl⟩ := Ext.cells hC; go_simp; rfl) (by simp only [List.set_cons_zero, List.set_cons_succ]; rfl) ?_)
          refine Fx.look rfl rfl (fun w' hC => op_load_Id' (f := idx) (c := idy) el e0 e1 rfl w' hC.1) (by simp only [List.set_cons_zero, List.set_cons_succ]; rfl) ?_
          refine Fx.call1 (v := .bool qq) (args := #[.pointer (some ⟨b, 0, none⟩), .agg #[.int .i64 idx, .int .u32 idy]]) rfl rfl (fun _ => by first | (go_simp; done) | (go_simp; rfl)) (fun w' hC => (is_at (HI9.out.x.p.ext hC.1) idx idy).mono (fun e w'' hh => by rw [Hqq.out] at hh; exact hh)) (by simp only [List.set_cons_zero, List.set_cons_succ]; rfl) ?_
          first
            | refine Fx.skip rfl rfl (by simp only [List.set_cons_zero, List.set_cons_succ]; rfl) ?_
            | (with_reducible refine Fx.lab0 ?_
               first
                 | refine Fx.moveT rfl rfl rfl (by simp only [List.set_cons_zero, List.set_cons_succ]; rfl) ?_
                 | refine Fx.assignT rfl rfl rfl (by simp only [List.set_cons_zero, List.set_cons_succ]; rfl) ?_
                 | refine Fx.pure_ rfl rfl (fun _ => by go_simp; first | done | rfl) (by simp only [List.set_cons_zero, List.set_cons_succ]; rfl) ?_)
            | (with_reducible refine Fx.lab1 ?_
               refine Fx.look rfl rfl (fun w' hC => by obtain ⟨hc, hf, hl⟩ := Ext.cells hC; go_simp; rfl) (by simp only [List.set_cons_zero, List.set_cons_succ]; rfl) ?_)
          refine Fx.look rfl rfl (fun w' hC => op_load_Id' (f := idx) (c := idy) el e0 e1 rfl w' hC.1) (by simp only [List.set_cons_zero, List.set_cons_succ]; rfl) ?_
          refine Fx.call1 (v := .bool qq) (args := #[.pointer (some ⟨r, 0, none⟩), .agg #[.int .i64 idx, .int .u32 idy]]) rfl rfl (fun _ => by first | (go_simp; done) | (go_simp; rfl)) (fun w' hC => (is_ref (HI9.out.v.ext hC.1) HD9.out idx idy).mono (fun e w'' hh => by rw [Hqd.out] at hh; exact hh)) (by simp only [List.set_cons_zero, List.set_cons_succ]; rfl) ?_
          iterate 2
            first
              | refine Fx.skip rfl rfl (by simp only [List.set_cons_zero, List.set_cons_succ]; rfl) ?_
              | (with_reducible refine Fx.lab0 ?_
                 first
                   | refine Fx.moveT rfl rfl rfl (by simp only [List.set_cons_zero, List.set_cons_succ]; rfl) ?_
                   | refine Fx.assignT rfl rfl rfl (by simp only [List.set_cons_zero, List.set_cons_succ]; rfl) ?_
                   | refine Fx.pure_ rfl rfl (fun _ => by go_simp; first | done | rfl) (by simp only [List.set_cons_zero, List.set_cons_succ]; rfl) ?_)
              | (with_reducible refine Fx.lab1 ?_
                 refine Fx.look rfl rfl (fun w' hC => by obtain ⟨hc, hf, hl⟩ := Ext.cells hC; go_simp; rfl) (by simp only [List.set_cons_zero, List.set_cons_succ]; rfl) ?_)
          refine Fx.done (fun wz hC => ?_)
          have HIz := Lib.hid (HI9.out.ext' hC.1)
          clear hC x0 x1 lb e0 e1 el
          go_wp2
          go_roundw
          case rel => exact ⟨i + 1, D9, _, dv9, σ9, by omega, by omega, HDl.out, by go_num, HIz⟩
          case measure => simp [intOf]; omega
        · have hMlI : ¬ (0 : Int) < (M.length : Int) := by omega
          go_upto_region 10 with fail
          refine wp_region_planC [(0,0),(1,0),(2,0),(3,0),(4,0),(5,0),(6,0),(7,3),(9,0),(10,0),(11,0),(12,3),(8,4),(13,4),(14,0),(15,0)] (by kernel_rfl) (by kernel_rfl) (by kernel_rfl) (G := fun w' => Ext w4 w') (Ext w4) (fun w' h => h) (Ext.drawn _ _) ?_
          iterate 16
            first
              | refine Gx.skip rfl rfl (by simp only [List.set_cons_zero, List.set_cons_succ]; rfl) ?_
              | (with_reducible refine Gx.lab0 ?_
                 first
                   | refine Gx.moveT rfl rfl rfl (by simp only [List.set_cons_zero, List.set_cons_succ]; rfl) ?_
                   | refine Gx.assignT rfl rfl rfl (by simp only [List.set_cons_zero, List.set_cons_succ]; rfl) ?_
                   | refine Gx.pure_ rfl rfl (fun _ => by go_simp; first | done | rfl) (by simp only [List.set_cons_zero, List.set_cons_succ]; rfl) ?_)
          refine Gx.done (fun w9 hC => ?_)
          have HI9 := Lib.hid (HI4.out.ext' hC)
          have HDl := HD10
          clear hC j0 j1 HFo HI4 HD10 HD10s HFb HF
          generalize σ = σ9 at *
          generalize D = D9 at *
          generalize dv = dv9 at *
          obtain ⟨pA, pcap, hpv, -⟩ := HI9.out.v.p.val
          subst hpv
          obtain ⟨x0, x1, lb⟩ := HI9.out.v.cells
          have hbq := HBx.out.ext HI9.out.x.e
          have e0 := hbq.cell 0 (by decide)
          have e1 := hbq.cell 1 (by decide)
          have el := hbq.lt
          simp only [idF, List.getD_cons_zero, List.getD_cons_succ] at e0 e1
          have hD9 : D9.length ≤ 1000000 := by have := HDl.out; omega
          have hp9 : (pend σ9).length ≤ 1000 := by rw [pend_len]; exact HI9.out.x.ok.len
          obtain ⟨qq, hqq⟩ : ∃ qq, isB σ9 (idx, idy) = qq := ⟨_, rfl⟩
          have Hqq := Lib.hid hqq
          have Hqd : Hid (decide ((idx, idy) ∈ D9) = qq) := Lib.hid (by rw [HI9.out.t]; exact hqq)
          have HP9 := Lib.hid hp9
          have HD9 := Lib.hid hD9
          clear hbq hD9 hp9 hqq
          go_upto_region 22 with fail
          refine wp_region_plan [(0,0),(2,0),(3,0),(4,0),(5,1),(1,2),(6,1),(7,0),(8,0),(9,0),(10,1),(11,1),(12,0),(13,1),(14,1),(15,0),(16,0)] (by kernel_rfl) (by kernel_rfl) (by kernel_rfl) (Ext w9) (fun _ _ h k => h.trans k) (Ext.drawn _ _) ?_
          iterate 5
            first
              | refine Fx.skip rfl rfl (by simp only [List.set_cons_zero, List.set_cons_succ]; rfl) ?_
              | (with_reducible refine Fx.lab0 ?_
                 first
                   | refine Fx.moveT rfl rfl rfl (by simp only [List.set_cons_zero, List.set_cons_succ]; rfl) ?_
                   | refine Fx.assignT rfl rfl rfl (by simp only [List.set_cons_zero, List.set_cons_succ]; rfl) ?_
                   | refine Fx.pure_ rfl rfl (fun _ => by go_simp; first | done | rfl) (by simp only [List.set_cons_zero, List.set_cons_succ]; rfl) ?_)
              | (with_reducible refine Fx.lab1 ?_
                 refine Fx.look rfl rfl (fun w' hC => by obtain ⟨hc, hf, hl⟩ := Ext.cells hC; go_simp; rfl) (by simp only [List.set_cons_zero, List.set_cons_succ]; rfl) ?_)
          refine Fx.mk (fun v' w' => OwnMs w' v' (pend σ9)) (fun _ _ _ h k => h.ext k) rfl rfl (fun w' hC => ?_) (fun va => ?_)
          · unfold stepAt
            rw [show (execOp _ _).run Try.prog w' = .ok (.enter 20 #[.pointer (some ⟨b, 0, none⟩)]) w' from by first | (go_simp; done) | (go_simp; rfl)]
            exact (pend_at (HI9.out.x.p.ext hC) HI9.out.x.ok).mono (fun e w'' hh => by
              obtain ⟨v', rfl, h1, h2, h3⟩ := hh
              exact ⟨_, rfl, h2, h1⟩)
          simp only [List.set_cons_zero, List.set_cons_succ]
          refine Fx.call1 (v := .bool true) (args := #[va, .slice pA (pend σ9).length pcap]) rfl rfl (fun _ => by first | (go_simp; done) | (go_simp; rfl)) (fun w' hC => (same_ref _ _ _ _ w' (hC.2.sl Ms.len) (HI9.out.v.ps.ext hC.1) (by have := HP9.out; omega)).mono (fun e w'' hh => by rw [show sameB (pend σ9) (pend σ9) = true by simp [sameB]] at hh; exact hh)) (by simp only [List.set_cons_zero, List.set_cons_succ]; rfl) ?_
          iterate 3
            first
              | refine Fx.skip rfl rfl (by simp only [List.set_cons_zero, List.set_cons_succ]; rfl) ?_
              | (with_reducible refine Fx.lab0 ?_
                 first
                   | refine Fx.moveT rfl rfl rfl (by simp only [List.set_cons_zero, List.set_cons_succ]; rfl) ?_
                   | refine Fx.assignT rfl rfl rfl (by simp only [List.set_cons_zero, List.set_cons_succ]; rfl) ?_
                   | refine Fx.pure_ rfl rfl (fun _ => by go_simp; first | done | rfl) (by simp only [List.set_cons_zero, List.set_cons_succ]; rfl) ?_)
              | (with_reducible refine Fx.lab1 ?_
                 refine Fx.look rfl rfl (fun w' hC => by obtain ⟨hc, hf, hl⟩ := Ext.cells hC; go_simp; rfl) (by simp only [List.set_cons_zero, List.set_cons_succ]; rfl) ?_)
          refine Fx.look rfl rfl (fun w' hC => op_load_Id' (f := idx) (c := idy) el e0 e1 rfl w' hC.1) (by simp only [List.set_cons_zero, List.set_cons_succ]; rfl) ?_
          refine Fx.call1 (v := .bool qq) (args := #[.pointer (some ⟨b, 0, none⟩), .agg #[.int .i64 idx, .int .u32 idy]]) rfl rfl (fun _ => by first | (go_simp; done) | (go_simp; rfl)) (fun w' hC => (is_at (HI9.out.x.p.ext hC.1) idx idy).mono (fun e w'' hh => by rw [Hqq.out] at hh; exact hh)) (by simp only [List.set_cons_zero, List.set_cons_succ]; rfl) ?_
          first
            | refine Fx.skip rfl rfl (by simp only [List.set_cons_zero, List.set_cons_succ]; rfl) ?_
            | (with_reducible refine Fx.lab0 ?_
               first
                 | refine Fx.moveT rfl rfl rfl (by simp only [List.set_cons_zero, List.set_cons_succ]; rfl) ?_
                 | refine Fx.assignT rfl rfl rfl (by simp only [List.set_cons_zero, List.set_cons_succ]; rfl) ?_
                 | refine Fx.pure_ rfl rfl (fun _ => by go_simp; first | done | rfl) (by simp only [List.set_cons_zero, List.set_cons_succ]; rfl) ?_)
            | (with_reducible refine Fx.lab1 ?_
               refine Fx.look rfl rfl (fun w' hC => by obtain ⟨hc, hf, hl⟩ := Ext.cells hC; go_simp; rfl) (by simp only [List.set_cons_zero, List.set_cons_succ]; rfl) ?_)
          refine Fx.look rfl rfl (fun w' hC => op_load_Id' (f := idx) (c := idy) el e0 e1 rfl w' hC.1) (by simp only [List.set_cons_zero, List.set_cons_succ]; rfl) ?_
          refine Fx.call1 (v := .bool qq) (args := #[.pointer (some ⟨r, 0, none⟩), .agg #[.int .i64 idx, .int .u32 idy]]) rfl rfl (fun _ => by first | (go_simp; done) | (go_simp; rfl)) (fun w' hC => (is_ref (HI9.out.v.ext hC.1) HD9.out idx idy).mono (fun e w'' hh => by rw [Hqd.out] at hh; exact hh)) (by simp only [List.set_cons_zero, List.set_cons_succ]; rfl) ?_
          iterate 2
            first
              | refine Fx.skip rfl rfl (by simp only [List.set_cons_zero, List.set_cons_succ]; rfl) ?_
              | (with_reducible refine Fx.lab0 ?_
                 first
                   | refine Fx.moveT rfl rfl rfl (by simp only [List.set_cons_zero, List.set_cons_succ]; rfl) ?_
                   | refine Fx.assignT rfl rfl rfl (by simp only [List.set_cons_zero, List.set_cons_succ]; rfl) ?_
                   | refine Fx.pure_ rfl rfl (fun _ => by go_simp; first | done | rfl) (by simp only [List.set_cons_zero, List.set_cons_succ]; rfl) ?_)
              | (with_reducible refine Fx.lab1 ?_
                 refine Fx.look rfl rfl (fun w' hC => by obtain ⟨hc, hf, hl⟩ := Ext.cells hC; go_simp; rfl) (by simp only [List.set_cons_zero, List.set_cons_succ]; rfl) ?_)
          refine Fx.done (fun wz hC => ?_)
          have HIz := Lib.hid (HI9.out.ext' hC.1)
          clear hC x0 x1 lb e0 e1 el
          go_wp2
          go_roundw
          case rel => exact ⟨i + 1, D9, _, dv9, σ9, by omega, by omega, HDl.out, by go_num, HIz⟩
          case measure => simp [intOf]; omega
      · have hp4 : (pend σ).length ≤ 1000000 := by rw [pend_len]; have := HI4.out.x.ok.len; omega
        obtain ⟨B, hB⟩ : ∃ B, batchL σ a.n = B := ⟨_, rfl⟩
        obtain ⟨be, hbe⟩ : ∃ be, batchE a.n = be := ⟨_, rfl⟩
        have hB2 : (if 1 ≤ a.n ∧ a.n ≤ 64 then (pend σ).take a.n.toNat else []) = B := by rw [← hB]; rfl
        have hBl : B.length ≤ 1000000 := by
          rw [← hB]; unfold batchL; split
          · rw [List.length_take]; omega
          · simp
        have HB := Lib.hid hB
        have HB2 := Lib.hid hB2
        have Hbe := Lib.hid hbe
        have HBl := Lib.hid hBl
        have Hp4 := Lib.hid hp4
        clear hB hB2 hbe hBl hp4
        go_upto_region 14 with (go_at_call 15; refine (batch_at HI4.out.x.p HI4.out.x.ok a.n).mono ?_; rintro e w5 ⟨nv, h0, h1, h2, h3⟩; rw [Hbe.out] at h0; subst h0; rw [HB.out] at h1; obtain ⟨bA, bcap, rfl, -⟩ := h1.val; have HBs := Lib.hid (h1.sl Ms.len); have HE5 := Lib.hid h2; clear h1 h2 h3)
        have HI5 := Lib.hid (HI4.out.ext' HE5.out)
        obtain ⟨xc, xf, xl⟩ := HE5.out.cells
        replace j1 := (xc _ _ hjbl).trans j1
        replace hjbl := xl _ hjbl
        clear xc xf xl
        go_upto_region 15 with (go_at_call 16; refine (batch_ref HI5.out.v Hp4.out a.n).mono ?_; rintro e w6 ⟨nv, h0, h1, h2⟩; rw [Hbe.out] at h0; subst h0; rw [HB2.out] at h1; obtain ⟨cA, ccap, rfl, -⟩ := h1.val; have HCs := Lib.hid h1; have HE6 := Lib.hid h2; clear h1 h2)
        refine wp_region_line [(0,0),(1,0),(2,0),(3,0),(4,0),(5,0),(6,1),(7,0),(8,0)] (by kernel_rfl) (by kernel_rfl) (Ext w6) (fun _ _ h k => h.trans k) (Ext.refl _) ?_
        iterate 6
          first
            | refine Fx.skip rfl rfl (by simp only [List.set_cons_zero, List.set_cons_succ]; rfl) ?_
            | (with_reducible refine Fx.lab0 ?_
               first
                 | refine Fx.moveT rfl rfl rfl (by simp only [List.set_cons_zero, List.set_cons_succ]; rfl) ?_
                 | refine Fx.assignT rfl rfl rfl (by simp only [List.set_cons_zero, List.set_cons_succ]; rfl) ?_
                 | refine Fx.pure_ rfl rfl (fun _ => by go_simp; first | done | rfl) (by simp only [List.set_cons_zero, List.set_cons_succ]; rfl) ?_)
            | (with_reducible refine Fx.lab1 ?_
               refine Fx.look rfl rfl (fun w' hC => by obtain ⟨hc, hf, hl⟩ := Ext.cells hC; go_simp; rfl) (by simp only [List.set_cons_zero, List.set_cons_succ]; rfl) ?_)
        refine Fx.call1 (v := .bool true) (args := #[.slice bA B.length bcap, .slice cA B.length ccap]) rfl rfl (fun _ => by first | (go_simp; done) | (go_simp; rfl)) (fun w' hC => (same_ref _ _ B B w' ((HBs.out.ext HE6.out).ext hC) (HCs.out.ext hC) (by have := HBl.out; omega)).mono (fun e w'' hh => by rw [show sameB B B = true by simp [sameB]] at hh; exact hh)) (by simp only [List.set_cons_zero, List.set_cons_succ]; rfl) ?_
        iterate 2
          first
            | refine Fx.skip rfl rfl (by simp only [List.set_cons_zero, List.set_cons_succ]; rfl) ?_
            | (with_reducible refine Fx.lab0 ?_
               first
                 | refine Fx.moveT rfl rfl rfl (by simp only [List.set_cons_zero, List.set_cons_succ]; rfl) ?_
                 | refine Fx.assignT rfl rfl rfl (by simp only [List.set_cons_zero, List.set_cons_succ]; rfl) ?_
                 | refine Fx.pure_ rfl rfl (fun _ => by go_simp; first | done | rfl) (by simp only [List.set_cons_zero, List.set_cons_succ]; rfl) ?_)
            | (with_reducible refine Fx.lab1 ?_
               refine Fx.look rfl rfl (fun w' hC => by obtain ⟨hc, hf, hl⟩ := Ext.cells hC; go_simp; rfl) (by simp only [List.set_cons_zero, List.set_cons_succ]; rfl) ?_)
        refine Fx.done (fun w9 hC => ?_)
        have HI9 := Lib.hid ((HI5.out.ext' HE6.out).ext' hC)
        have HDl := HD10
        clear hC j0 j1 HFo HI4 HI5 HD10 HD10s HFb HF HBs HCs HE5 HE6 HB HB2 Hp4
        generalize σ = σ9 at *
        generalize D = D9 at *
        generalize dv = dv9 at *
        obtain ⟨pA, pcap, hpv, -⟩ := HI9.out.v.p.val
        subst hpv
        obtain ⟨x0, x1, lb⟩ := HI9.out.v.cells
        have hbq := HBx.out.ext HI9.out.x.e
        have e0 := hbq.cell 0 (by decide)
        have e1 := hbq.cell 1 (by decide)
        have el := hbq.lt
        simp only [idF, List.getD_cons_zero, List.getD_cons_succ] at e0 e1
        have hD9 : D9.length ≤ 1000000 := by have := HDl.out; omega
        have hp9 : (pend σ9).length ≤ 1000 := by rw [pend_len]; exact HI9.out.x.ok.len
        obtain ⟨qq, hqq⟩ : ∃ qq, isB σ9 (idx, idy) = qq := ⟨_, rfl⟩
        have Hqq := Lib.hid hqq
        have Hqd : Hid (decide ((idx, idy) ∈ D9) = qq) := Lib.hid (by rw [HI9.out.t]; exact hqq)
        have HP9 := Lib.hid hp9
        have HD9 := Lib.hid hD9
        clear hbq hD9 hp9 hqq
        go_upto_region 22 with fail
        refine wp_region_plan [(0,0),(2,0),(3,0),(4,0),(5,1),(1,2),(6,1),(7,0),(8,0),(9,0),(10,1),(11,1),(12,0),(13,1),(14,1),(15,0),(16,0)] (by kernel_rfl) (by kernel_rfl) (by kernel_rfl) (Ext w9) (fun _ _ h k => h.trans k) (Ext.drawn _ _) ?_
        iterate 5
          first
            | refine Fx.skip rfl rfl (by simp only [List.set_cons_zero, List.set_cons_succ]; rfl) ?_
            | (with_reducible refine Fx.lab0 ?_
               first
                 | refine Fx.moveT rfl rfl rfl (by simp only [List.set_cons_zero, List.set_cons_succ]; rfl) ?_
                 | refine Fx.assignT rfl rfl rfl (by simp only [List.set_cons_zero, List.set_cons_succ]; rfl) ?_
                 | refine Fx.pure_ rfl rfl (fun _ => by go_simp; first | done | rfl) (by simp only [List.set_cons_zero, List.set_cons_succ]; rfl) ?_)
            | (with_reducible refine Fx.lab1 ?_
               refine Fx.look rfl rfl (fun w' hC => by obtain ⟨hc, hf, hl⟩ := Ext.cells hC; go_simp; rfl) (by simp only [List.set_cons_zero, List.set_cons_succ]; rfl) ?_)
        refine Fx.mk (fun v' w' => OwnMs w' v' (pend σ9)) (fun _ _ _ h k => h.ext k) rfl rfl (fun w' hC => ?_) (fun va => ?_)
        · unfold stepAt
          rw [show (execOp _ _).run Try.prog w' = .ok (.enter 20 #[.pointer (some ⟨b, 0, none⟩)]) w' from by first | (go_simp; done) | (go_simp; rfl)]
          exact (pend_at (HI9.out.x.p.ext hC) HI9.out.x.ok).mono (fun e w'' hh => by
            obtain ⟨v', rfl, h1, h2, h3⟩ := hh
            exact ⟨_, rfl, h2, h1⟩)
        simp only [List.set_cons_zero, List.set_cons_succ]
        refine Fx.call1 (v := .bool true) (args := #[va, .slice pA (pend σ9).length pcap]) rfl rfl (fun _ => by first | (go_simp; done) | (go_simp; rfl)) (fun w' hC => (same_ref _ _ _ _ w' (hC.2.sl Ms.len) (HI9.out.v.ps.ext hC.1) (by have := HP9.out; omega)).mono (fun e w'' hh => by rw [show sameB (pend σ9) (pend σ9) = true by simp [sameB]] at hh; exact hh)) (by simp only [List.set_cons_zero, List.set_cons_succ]; rfl) ?_
        iterate 3
          first
            | refine Fx.skip rfl rfl (by simp only [List.set_cons_zero, List.set_cons_succ]; rfl) ?_
            | (with_reducible refine Fx.lab0 ?_
               first
                 | refine Fx.moveT rfl rfl rfl (by simp only [List.set_cons_zero, List.set_cons_succ]; rfl) ?_
                 | refine Fx.assignT rfl rfl rfl (by simp only [List.set_cons_zero, List.set_cons_succ]; rfl) ?_
                 | refine Fx.pure_ rfl rfl (fun _ => by go_simp; first | done | rfl) (by simp only [List.set_cons_zero, List.set_cons_succ]; rfl) ?_)
            | (with_reducible refine Fx.lab1 ?_
               refine Fx.look rfl rfl (fun w' hC => by obtain ⟨hc, hf, hl⟩ := Ext.cells hC; go_simp; rfl) (by simp only [List.set_cons_zero, List.set_cons_succ]; rfl) ?_)
        refine Fx.look rfl rfl (fun w' hC => op_load_Id' (f := idx) (c := idy) el e0 e1 rfl w' hC.1) (by simp only [List.set_cons_zero, List.set_cons_succ]; rfl) ?_
        refine Fx.call1 (v := .bool qq) (args := #[.pointer (some ⟨b, 0, none⟩), .agg #[.int .i64 idx, .int .u32 idy]]) rfl rfl (fun _ => by first | (go_simp; done) | (go_simp; rfl)) (fun w' hC => (is_at (HI9.out.x.p.ext hC.1) idx idy).mono (fun e w'' hh => by rw [Hqq.out] at hh; exact hh)) (by simp only [List.set_cons_zero, List.set_cons_succ]; rfl) ?_
        first
          | refine Fx.skip rfl rfl (by simp only [List.set_cons_zero, List.set_cons_succ]; rfl) ?_
          | (with_reducible refine Fx.lab0 ?_
             first
               | refine Fx.moveT rfl rfl rfl (by simp only [List.set_cons_zero, List.set_cons_succ]; rfl) ?_
               | refine Fx.assignT rfl rfl rfl (by simp only [List.set_cons_zero, List.set_cons_succ]; rfl) ?_
               | refine Fx.pure_ rfl rfl (fun _ => by go_simp; first | done | rfl) (by simp only [List.set_cons_zero, List.set_cons_succ]; rfl) ?_)
          | (with_reducible refine Fx.lab1 ?_
             refine Fx.look rfl rfl (fun w' hC => by obtain ⟨hc, hf, hl⟩ := Ext.cells hC; go_simp; rfl) (by simp only [List.set_cons_zero, List.set_cons_succ]; rfl) ?_)
        refine Fx.look rfl rfl (fun w' hC => op_load_Id' (f := idx) (c := idy) el e0 e1 rfl w' hC.1) (by simp only [List.set_cons_zero, List.set_cons_succ]; rfl) ?_
        refine Fx.call1 (v := .bool qq) (args := #[.pointer (some ⟨r, 0, none⟩), .agg #[.int .i64 idx, .int .u32 idy]]) rfl rfl (fun _ => by first | (go_simp; done) | (go_simp; rfl)) (fun w' hC => (is_ref (HI9.out.v.ext hC.1) HD9.out idx idy).mono (fun e w'' hh => by rw [Hqd.out] at hh; exact hh)) (by simp only [List.set_cons_zero, List.set_cons_succ]; rfl) ?_
        iterate 2
          first
            | refine Fx.skip rfl rfl (by simp only [List.set_cons_zero, List.set_cons_succ]; rfl) ?_
            | (with_reducible refine Fx.lab0 ?_
               first
                 | refine Fx.moveT rfl rfl rfl (by simp only [List.set_cons_zero, List.set_cons_succ]; rfl) ?_
                 | refine Fx.assignT rfl rfl rfl (by simp only [List.set_cons_zero, List.set_cons_succ]; rfl) ?_
                 | refine Fx.pure_ rfl rfl (fun _ => by go_simp; first | done | rfl) (by simp only [List.set_cons_zero, List.set_cons_succ]; rfl) ?_)
            | (with_reducible refine Fx.lab1 ?_
               refine Fx.look rfl rfl (fun w' hC => by obtain ⟨hc, hf, hl⟩ := Ext.cells hC; go_simp; rfl) (by simp only [List.set_cons_zero, List.set_cons_succ]; rfl) ?_)
        refine Fx.done (fun wz hC => ?_)
        have HIz := Lib.hid (HI9.out.ext' hC.1)
        clear hC x0 x1 lb e0 e1 el
        go_wp2
        go_roundw
        case rel => exact ⟨i + 1, D9, _, dv9, σ9, by omega, by omega, HDl.out, by go_num, HIz⟩
        case measure => simp [intOf]; omega
      · have hM1000 : M.length ≤ 1000000 := by omega
        obtain ⟨X, hX⟩ : ∃ X, doneA σ M = X := ⟨_, rfl⟩
        obtain ⟨ee, hee⟩ : ∃ ee, doneE M = ee := ⟨_, rfl⟩
        have hXl : X.length ≤ 10 := by rw [← hX]; have := (doneA_new σ M).2.2.1; omega
        have HX := Lib.hid hX
        have Hee := Lib.hid hee
        have HXl := Lib.hid hXl
        clear hX hee hXl
        go_upto_region 19 with (go_at_call 18; refine (done_at HI4.out.x.p _ M (HF.out.sl Ms.len) hM1000 (fun x hx => (HFo.out x hx).1)).mono ?_; rintro e w5 ⟨xv, h0, g1, g2, g3, g4⟩; rw [Hee.out] at h0; subst h0; rw [HX.out] at g2; obtain ⟨xA, xcap, rfl, hxc, hxm⟩ := g2.val; have HXs := Lib.hid g2; have HI5 := Lib.hid (HI4.out.stepX (HI4.out.x.step g1 (doneS_ok HI4.out.x.ok _) g3) g3); have HF5 := Lib.hid ((HF.out.sl Ms.len).mods g3 (fun x hx => (HFo.out x hx).1)); have HXb := Lib.hid g4; clear g1 g2 g3 g4)
        have hD5 : D.length + M.length ≤ 1000000 := by have := HD10.out; omega
        have HD5 := Lib.hid hD5
        clear hD5
        go_upto_region 20 with (go_at_call 19; refine (done_ref HI5.out.v HI4.out.x.ok ⟨rfl, HI5.out.t⟩ M HF5.out HD5.out (fun x hx => (HFo.out x hx).2)).mono ?_; rintro e w6 ⟨yv, pv9, dv9, D9, h0, g1, g2, g3⟩; rw [Hee.out] at h0; subst h0; rw [HX.out] at g3; obtain ⟨yA, ycap, rfl, -⟩ := g3.n.val; have HYs := Lib.hid (g3.n.sl Ms.len); have HG3 := Lib.hid g3; have HI6 := Lib.hid (HI5.out.stepV g3.v g1.d g3.m g3.fp g3.fd); have HDl : Hid (D9.length ≤ 10 * (i + 1)) := Lib.hid (by have := HD10s.out; omega); clear g1 g2 g3)
        have hxs6 := HXs.out.mods HG3.out.m (fun x hx e => by
          have h1 := HXb.out x hx
          rcases e with e | e
          · have := HI4.out.v.cells.2.2; omega
          · have := HI4.out.v.d.lt e; omega)
        have HXs6 := Lib.hid hxs6
        clear hxs6
        refine wp_region_line [(0,0),(1,0),(2,0),(3,0),(4,0),(5,0),(6,1),(7,0),(8,0)] (by kernel_rfl) (by kernel_rfl) (Ext w6) (fun _ _ h k => h.trans k) (Ext.refl _) ?_
        iterate 6
          first
            | refine Fx.skip rfl rfl (by simp only [List.set_cons_zero, List.set_cons_succ]; rfl) ?_
            | (with_reducible refine Fx.lab0 ?_
               first
                 | refine Fx.moveT rfl rfl rfl (by simp only [List.set_cons_zero, List.set_cons_succ]; rfl) ?_
                 | refine Fx.assignT rfl rfl rfl (by simp only [List.set_cons_zero, List.set_cons_succ]; rfl) ?_
                 | refine Fx.pure_ rfl rfl (fun _ => by go_simp; first | done | rfl) (by simp only [List.set_cons_zero, List.set_cons_succ]; rfl) ?_)
            | (with_reducible refine Fx.lab1 ?_
               refine Fx.look rfl rfl (fun w' hC => by obtain ⟨hc, hf, hl⟩ := Ext.cells hC; go_simp; rfl) (by simp only [List.set_cons_zero, List.set_cons_succ]; rfl) ?_)
        refine Fx.call1 (v := .bool true) (args := #[.slice xA X.length xcap, .slice yA X.length ycap]) rfl rfl (fun _ => by first | (go_simp; done) | (go_simp; rfl)) (fun w' hC => (same_ref _ _ X X w' ((HXs6.out.ext hC).sl Ms.len) (HYs.out.ext hC) (by have := HXl.out; omega)).mono (fun e w'' hh => by rw [show sameB X X = true by simp [sameB]] at hh; exact hh)) (by simp only [List.set_cons_zero, List.set_cons_succ]; rfl) ?_
        iterate 2
          first
            | refine Fx.skip rfl rfl (by simp only [List.set_cons_zero, List.set_cons_succ]; rfl) ?_
            | (with_reducible refine Fx.lab0 ?_
               first
                 | refine Fx.moveT rfl rfl rfl (by simp only [List.set_cons_zero, List.set_cons_succ]; rfl) ?_
                 | refine Fx.assignT rfl rfl rfl (by simp only [List.set_cons_zero, List.set_cons_succ]; rfl) ?_
                 | refine Fx.pure_ rfl rfl (fun _ => by go_simp; first | done | rfl) (by simp only [List.set_cons_zero, List.set_cons_succ]; rfl) ?_)
            | (with_reducible refine Fx.lab1 ?_
               refine Fx.look rfl rfl (fun w' hC => by obtain ⟨hc, hf, hl⟩ := Ext.cells hC; go_simp; rfl) (by simp only [List.set_cons_zero, List.set_cons_succ]; rfl) ?_)
        refine Fx.done (fun w9 hC => ?_)
        have HI9 := Lib.hid (HI6.out.ext' hC)
        clear hC j0 j1 HFo HI4 HI5 HI6 HD10 HD10s HFb HF HF5 HXs HXs6 HYs HG3 HXb HX HD5
        generalize doneS σ M = σ9 at *
        obtain ⟨pA, pcap, hpv, -⟩ := HI9.out.v.p.val
        subst hpv
        obtain ⟨x0, x1, lb⟩ := HI9.out.v.cells
        have hbq := HBx.out.ext HI9.out.x.e
        have e0 := hbq.cell 0 (by decide)
        have e1 := hbq.cell 1 (by decide)
        have el := hbq.lt
        simp only [idF, List.getD_cons_zero, List.getD_cons_succ] at e0 e1
        have hD9 : D9.length ≤ 1000000 := by have := HDl.out; omega
        have hp9 : (pend σ9).length ≤ 1000 := by rw [pend_len]; exact HI9.out.x.ok.len
        obtain ⟨qq, hqq⟩ : ∃ qq, isB σ9 (idx, idy) = qq := ⟨_, rfl⟩
        have Hqq := Lib.hid hqq
        have Hqd : Hid (decide ((idx, idy) ∈ D9) = qq) := Lib.hid (by rw [HI9.out.t]; exact hqq)
        have HP9 := Lib.hid hp9
        have HD9 := Lib.hid hD9
        clear hbq hD9 hp9 hqq
        go_upto_region 22 with fail
        refine wp_region_plan [(0,0),(2,0),(3,0),(4,0),(5,1),(1,2),(6,1),(7,0),(8,0),(9,0),(10,1),(11,1),(12,0),(13,1),(14,1),(15,0),(16,0)] (by kernel_rfl) (by kernel_rfl) (by kernel_rfl) (Ext w9) (fun _ _ h k => h.trans k) (Ext.drawn _ _) ?_
        iterate 5
          first
            | refine Fx.skip rfl rfl (by simp only [List.set_cons_zero, List.set_cons_succ]; rfl) ?_
            | (with_reducible refine Fx.lab0 ?_
               first
                 | refine Fx.moveT rfl rfl rfl (by simp only [List.set_cons_zero, List.set_cons_succ]; rfl) ?_
                 | refine Fx.assignT rfl rfl rfl (by simp only [List.set_cons_zero, List.set_cons_succ]; rfl) ?_
                 | refine Fx.pure_ rfl rfl (fun _ => by go_simp; first | done | rfl) (by simp only [List.set_cons_zero, List.set_cons_succ]; rfl) ?_)
            | (with_reducible refine Fx.lab1 ?_
               refine Fx.look rfl rfl (fun w' hC => by obtain ⟨hc, hf, hl⟩ := Ext.cells hC; go_simp; rfl) (by simp only [List.set_cons_zero, List.set_cons_succ]; rfl) ?_)
        refine Fx.mk (fun v' w' => OwnMs w' v' (pend σ9)) (fun _ _ _ h k => h.ext k) rfl rfl (fun w' hC => ?_) (fun va => ?_)
        · unfold stepAt
          rw [show (execOp _ _).run Try.prog w' = .ok (.enter 20 #[.pointer (some ⟨b, 0, none⟩)]) w' from by first | (go_simp; done) | (go_simp; rfl)]
          exact (pend_at (HI9.out.x.p.ext hC) HI9.out.x.ok).mono (fun e w'' hh => by
            obtain ⟨v', rfl, h1, h2, h3⟩ := hh
            exact ⟨_, rfl, h2, h1⟩)
        simp only [List.set_cons_zero, List.set_cons_succ]
        refine Fx.call1 (v := .bool true) (args := #[va, .slice pA (pend σ9).length pcap]) rfl rfl (fun _ => by first | (go_simp; done) | (go_simp; rfl)) (fun w' hC => (same_ref _ _ _ _ w' (hC.2.sl Ms.len) (HI9.out.v.ps.ext hC.1) (by have := HP9.out; omega)).mono (fun e w'' hh => by rw [show sameB (pend σ9) (pend σ9) = true by simp [sameB]] at hh; exact hh)) (by simp only [List.set_cons_zero, List.set_cons_succ]; rfl) ?_
        iterate 3
          first
            | refine Fx.skip rfl rfl (by simp only [List.set_cons_zero, List.set_cons_succ]; rfl) ?_
            | (with_reducible refine Fx.lab0 ?_
               first
                 | refine Fx.moveT rfl rfl rfl (by simp only [List.set_cons_zero, List.set_cons_succ]; rfl) ?_
                 | refine Fx.assignT rfl rfl rfl (by simp only [List.set_cons_zero, List.set_cons_succ]; rfl) ?_
                 | refine Fx.pure_ rfl rfl (fun _ => by go_simp; first | done | rfl) (by simp only [List.set_cons_zero, List.set_cons_succ]; rfl) ?_)
            | (with_reducible refine Fx.lab1 ?_
               refine Fx.look rfl rfl (fun w' hC => by obtain ⟨hc, hf, hl⟩ := Ext.cells hC; go_simp; rfl) (by simp only [List.set_cons_zero, List.set_cons_succ]; rfl) ?_)
        refine Fx.look rfl rfl (fun w' hC => op_load_Id' (f := idx) (c := idy) el e0 e1 rfl w' hC.1) (by simp only [List.set_cons_zero, List.set_cons_succ]; rfl) ?_
        refine Fx.call1 (v := .bool qq) (args := #[.pointer (some ⟨b, 0, none⟩), .agg #[.int .i64 idx, .int .u32 idy]]) rfl rfl (fun _ => by first | (go_simp; done) | (go_simp; rfl)) (fun w' hC => (is_at (HI9.out.x.p.ext hC.1) idx idy).mono (fun e w'' hh => by rw [Hqq.out] at hh; exact hh)) (by simp only [List.set_cons_zero, List.set_cons_succ]; rfl) ?_
        first
          | refine Fx.skip rfl rfl (by simp only [List.set_cons_zero, List.set_cons_succ]; rfl) ?_
          | (with_reducible refine Fx.lab0 ?_
             first
               | refine Fx.moveT rfl rfl rfl (by simp only [List.set_cons_zero, List.set_cons_succ]; rfl) ?_
               | refine Fx.assignT rfl rfl rfl (by simp only [List.set_cons_zero, List.set_cons_succ]; rfl) ?_
               | refine Fx.pure_ rfl rfl (fun _ => by go_simp; first | done | rfl) (by simp only [List.set_cons_zero, List.set_cons_succ]; rfl) ?_)
          | (with_reducible refine Fx.lab1 ?_
             refine Fx.look rfl rfl (fun w' hC => by obtain ⟨hc, hf, hl⟩ := Ext.cells hC; go_simp; rfl) (by simp only [List.set_cons_zero, List.set_cons_succ]; rfl) ?_)
        refine Fx.look rfl rfl (fun w' hC => op_load_Id' (f := idx) (c := idy) el e0 e1 rfl w' hC.1) (by simp only [List.set_cons_zero, List.set_cons_succ]; rfl) ?_
        refine Fx.call1 (v := .bool qq) (args := #[.pointer (some ⟨r, 0, none⟩), .agg #[.int .i64 idx, .int .u32 idy]]) rfl rfl (fun _ => by first | (go_simp; done) | (go_simp; rfl)) (fun w' hC => (is_ref (HI9.out.v.ext hC.1) HD9.out idx idy).mono (fun e w'' hh => by rw [Hqd.out] at hh; exact hh)) (by simp only [List.set_cons_zero, List.set_cons_succ]; rfl) ?_
        iterate 2
          first
            | refine Fx.skip rfl rfl (by simp only [List.set_cons_zero, List.set_cons_succ]; rfl) ?_
            | (with_reducible refine Fx.lab0 ?_
               first
                 | refine Fx.moveT rfl rfl rfl (by simp only [List.set_cons_zero, List.set_cons_succ]; rfl) ?_
                 | refine Fx.assignT rfl rfl rfl (by simp only [List.set_cons_zero, List.set_cons_succ]; rfl) ?_
                 | refine Fx.pure_ rfl rfl (fun _ => by go_simp; first | done | rfl) (by simp only [List.set_cons_zero, List.set_cons_succ]; rfl) ?_)
            | (with_reducible refine Fx.lab1 ?_
               refine Fx.look rfl rfl (fun w' hC => by obtain ⟨hc, hf, hl⟩ := Ext.cells hC; go_simp; rfl) (by simp only [List.set_cons_zero, List.set_cons_succ]; rfl) ?_)
        refine Fx.done (fun wz hC => ?_)
        have HIz := Lib.hid (HI9.out.ext' hC.1)
        clear hC x0 x1 lb e0 e1 el
        go_wp2
        go_roundw
        case rel => exact ⟨i + 1, D9, _, dv9, σ9, by omega, by omega, HDl.out, by go_num, HIz⟩
        case measure => simp [intOf]; omega
    · by_cases hlt : i < l.length
      · have h60 : ¬ i < 60 := fun h => hgo ⟨hlt, h⟩
        have h60I : ¬ (i : Int) < 60 := by omega
        clear hgo
        go_wp2
        go_ret
        exact ⟨rfl, HE1.out.trans hI.out.x.e⟩
      · clear hgo
        go_wp2
        go_ret
        exact ⟨rfl, HE1.out.trans hI.out.x.e⟩
end Go.Proofs.Ytkkcdoajdhbofaa
