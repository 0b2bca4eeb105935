/-
  sequence.Follower: release.
-/
import Derived.Test.YtokljdkeegdniaaCmpN
import Derived.Test.YtokljdkeegdniaaPlainR
namespace Go.Proofs.Ytokljdkeegdniaa
open Go.RowKit Go.Sort
attribute [local go_sem] Oper.semAt_some

theorem riseN_of {L : List Nb} (hn : (L.map (·.n)).Nodup) (h : L.Pairwise (fun x y => ltOf cmpN y x = false)) : RiseN L := by
  unfold RiseN
  rw [List.pairwise_iff_getElem] at *
  intro i j hi hj hij
  have h1 := h i j hi hj hij
  have h2 := List.pairwise_iff_getElem.1 hn i j (by simpa using hi) (by simpa using hj) hij
  simp only [List.getElem_map] at h2
  rw [ltOf_cmpN] at h1
  simp at h1
  omega
def RelR (w : World) (b mw mb : Nat) (σ : FwSt) (e : Ending) (w' : World) : Prop :=
  ∃ v, e = .returned v ∧ NbL w' v (relL σ) ∧ FwAt w' b mw mb (relS σ) ∧ Mods (FF b mw mb) w w' ∧ ∀ x, v.ownBlock = some x → w.heap.size ≤ x
/-- How many pairs a range has still to show. -/
def restLen (w : World) (r mb : Nat) : Nat := match w.heap[r]?, w.heap[mb]? with
  | some (.mapIter _ _ seen _), some (.map es _) => (es.toList.filter (fun e => !seen.contains e.born)).length
  | _, _ => 0
theorem RgIs.restLen {K V : Type} {ek : K → Value} {ev : V → Value} {w : World} {r mb : Nat} {kv rest : List (K × V)} (h : RgIs w r mb ek ev kv rest) : restLen w r mb = rest.length := by
  obtain ⟨X, clock, since, c0, seen, hb, hX, hn, hl, h1, h2, hr, hrest⟩ := h
  unfold Go.Proofs.Ytokljdkeegdniaa.restLen
  rw [hr, hb, ← hrest]
  simp only [List.length_map, List.filter_map, mkE, Function.comp_def]
theorem stepAt_put_Pl {a : Act} {d : Option Tmp} {t : TypeId} {s : String} {af : Array Edge} {g : Option (Nat × Bool)} {w : World} {B : Nat} {f : Nat → Value} {q x : Operand} (h : Obj_ w B 2 f) (k : Int × Int) (hq : a.eval q = .pointer (some ⟨B, 0, none⟩)) (hx : a.eval x = plV k) :
    stepAt Try.prog ⟨d, .store 86 q x, t, s, af, g⟩ a w (fun _ w' => Mods (· = B) w w' ∧ Obj_ w' B 2 (plF k)) := by
  unfold stepAt
  simp only [execOp, Sem.run_bind, run_store_Pl h k hq hx, Result.andThen_ok]
  refine ⟨(Mods.setCell w B 0 _).trans (Mods.setCell _ B 1 _) (fun _ _ h => h), ?_⟩
  refine ((h.set (i := 0) (by omega) _).set (i := 1) (by omega) _).congr fun i hi => ?_
  match i, hi with
  | 0, _ => rfl
  | 1, _ => rfl
theorem stepAt_put_Ms {a : Act} {d : Option Tmp} {t : TypeId} {s : String} {af : Array Edge} {g : Option (Nat × Bool)} {w : World} {B : Nat} {f : Nat → Value} {q x : Operand} (h : Obj_ w B 3 f) (m : Ms) (hq : a.eval q = .pointer (some ⟨B, 0, none⟩)) (hx : a.eval x = m.val) :
    stepAt Try.prog ⟨d, .store 34 q x, t, s, af, g⟩ a w (fun _ w' => Mods (· = B) w w' ∧ Obj_ w' B 3 (msF m)) := by
  unfold stepAt
  simp only [execOp, Sem.run_bind, run_store_Ms h m hq hx, Result.andThen_ok]
  refine ⟨((Mods.setCell w B 0 _).trans (Mods.setCell _ B 1 _) (fun _ _ h => h)).trans (Mods.setCell _ B 2 _) (fun _ _ h => h), ?_⟩
  refine (((h.set (i := 0) (by omega) _).set (i := 1) (by omega) _).set (i := 2) (by omega) _).congr fun i hi => ?_
  match i, hi with
  | 0, _ => rfl
  | 1, _ => rfl
  | 2, _ => rfl
/-- Within the loop: what lies where. -/
structure RelI (w : World) (b mw mb : Nat) (σ : FwSt) (kv rest : List ((Int × Int) × Ms)) (l : List Nb) (v : Value) (wr : World) : Prop where
  o : Obj_ wr b 4 (fwF σ.ep σ.nx mw mb)
  wm : MapIs wr mw plV Ms.val σ.wt
  rg : RgIs wr w.heap.size mb plV Ms.val kv rest
  own : OwnNb wr v l
  nf : ∀ x, v.ownBlock = some x → w.heap.size < x
  e : Mods (FF b mw mb) w wr
theorem RelI.ext {w : World} {b mw mb : Nat} {σ : FwSt} {kv rest : List ((Int × Int) × Ms)} {l : List Nb} {v : Value} {wr w' : World} (h : RelI w b mw mb σ kv rest l v wr) (he : Ext wr w') : RelI w b mw mb σ kv rest l v w' :=
  ⟨h.o.ext he, h.wm.ext he, h.rg.ext he, h.own.ext he, h.nf, h.e.then_ he⟩
set_option maxRecDepth 100000 in
set_option maxHeartbeats 6400000 in
theorem rel_at {w : World} {b mw mb : Nat} {σ : FwSt} (h : FwAt w b mw mb σ) (hnd : (σ.bf.map (·.1)).Nodup) (hlen : σ.bf.length ≤ 1000000) :
    Calls Try.prog 29 #[.pointer (some ⟨b, 0, none⟩)] w (RelR w b mw mb σ) := by
  obtain ⟨w0, hrg, hR0, hE0⟩ := RgIs.begin (P := Try.prog) h.bm Try.underlying69
  obtain ⟨c0, c1, c2, c3, lb⟩ := h.cells
  have HI0 : Hid (RelI w b mw mb σ (curB σ.ep [] σ.bf) σ.bf (nowB σ.ep []) (.slice none 0 0) w0) := Lib.hid ⟨h.o.ext hE0, h.wm.ext hE0, by rw [curB_nil]; exact hR0, Own.nil, fun x hx => by simp [Value.ownBlock] at hx, hE0.mods _⟩
  have H := Lib.hid h
  have HN := Lib.hid hnd
  have HLn := Lib.hid hlen
  have HLT : Hid (b < w.heap.size ∧ mw < w.heap.size ∧ mb < w.heap.size) := Lib.hid ⟨h.lt (.inl rfl), h.lt (.inr (.inl rfl)), h.lt (.inr (.inr rfl))⟩
  clear h hR0 hE0 hnd hlen c0 c1 c2
  obtain ⟨r0, hr0⟩ : ∃ r0, w.heap.size = r0 := ⟨_, rfl⟩
  rw [hr0] at hrg
  have Hr0 := Lib.hid hr0
  obtain ⟨ep, hep⟩ : ∃ ep, σ.ep = ep := ⟨_, rfl⟩
  have Hep := Lib.hid hep
  clear hep hr0
  go_enter Try.func29, Try.ntmps29
  go_wp2
  refine wp_scope_straight ?_
  go_wp2
  refine wp_label ?_
  go_wp2
  clear hrg c3 lb
  go_loopw [3] (fun v3 wr => ∃ (v : Value) (got rest : List ((Int × Int) × Ms)), v = v3 ∧ Hid ((got ++ rest).Perm σ.bf) ∧ Hid (RelI w b mw mb σ (curB σ.ep got σ.bf) rest (nowB σ.ep got) v wr)) (fun _ wr => restLen wr r0 mb)
  case atStart => exact ⟨_, [], σ.bf, rfl, Lib.hid (by simp), HI0⟩
  case round =>
    obtain ⟨v, got, rest, rfl, hP, hI⟩ := hrel
    have hrg := hI.out.rg
    rw [Hr0.out] at hrg
    have HRL := Lib.hid hrg.restLen
    rcases hrg.next (P := Try.prog) 0 with ⟨hnil, hrun⟩ | ⟨p, rest', w1, hpm, hperm, hrun, hR1, hM1, hen⟩
    · subst hnil
      have hP' : got.Perm σ.bf := by simpa using hP.out
      have HP := Lib.hid hP'
      clear hP' hrg
      have hNl : (nowB σ.ep got).length ≤ 1000000000 := by
        have h1 := nowB_len σ.ep got
        have h2 := HP.out.length_eq
        have := HLn.out
        omega
      have HL := Lib.hid hNl
      have eg : ∀ args w, (callFunc 39 args).run Try.prog w = .ok (.enter 39 args) w := fun args w => callFunc_at _ (by kernel_rfl) args w
      have HEg := Lib.hid eg
      clear eg hNl HRL hP
      go_upto_region 10 with (go_at_call 38; refine (sort_at (sortIt) 5 (by decide) (fun w => by first | (go_simp; done) | (go_simp; rfl)) (fun w => by first | (go_simp; done) | (go_simp; rfl)) Nb.enc Nb.len Nb.one cmpN swoN 39 HEg.out cmp_atN hI.out.own HL.out).mono ?_; rintro e w2 ⟨rfl, L, hL1, hL2, hL3, hL4⟩; have HL1 := Lib.hid hL1; have HL2 := Lib.hid hL2; have HL3 := Lib.hid hL3; have HL4 := Lib.hid hL4; clear hL1 hL2 hL3 hL4)
      have hgn : (got.map (·.1)).Nodup := (HP.out.map (·.1)).nodup_iff.2 HN.out
      have hLe := relL_eq HN.out HP.out HL1.out (riseN_of ((HL1.out.map (·.n)).nodup_iff.2 (nowB_nodup hgn)) HL2.out)
      have hl3 := HL3.out
      rw [hLe] at hl3
      have hnf := hI.out.nf
      have hlt := HLT.out
      have hbm := hI.out.rg.map
      rw [curB_end HP.out] at hbm
      have HF : Hid (FwAt w2 b mw mb (relS σ)) := Lib.hid ⟨hI.out.o.mods HL4.out (fun h => by have := hnf _ h; omega), hI.out.wm.mods HL4.out (fun h => by have := hnf _ h; omega), hbm.mods HL4.out (fun h => by have := hnf _ h; omega), H.out.d1, H.out.d2, H.out.d3⟩
      have HM : Hid (Mods (FF b mw mb) w w2) := Lib.hid (((hI.out.e.mono (T := fun x => FF b mw mb x ∨ v.ownBlock = some x) (fun _ _ h => .inl h)).trans HL4.out (fun _ _ h => .inr h)).mono (fun x hx h => h.elim id (fun h => by have := hnf _ h; omega)))
      have HV : Hid (NbL w2 v (relL σ)) := Lib.hid hl3
      have HNf : Hid (∀ x, v.ownBlock = some x → w.heap.size ≤ x) := Lib.hid (fun x hx => Nat.le_of_lt (hnf x hx))
      clear hgn hLe hl3 hnf hlt hbm hrun
      go_wp2
      simp only [Exit.noGoto]
      go_ret
      exact ⟨v, rfl, HV.out, HF.out, HM.out, HNf.out⟩
    · obtain ⟨⟨pe, pn⟩, m⟩ := p
      have HR1 := Lib.hid hR1
      have HEn := Lib.hid hen
      have HL1 : Hid (restLen w1 r0 mb + 1 = restLen wr r0 mb) := Lib.hid (by rw [hR1.restLen, HRL.out, hperm.length_eq]; rfl)
      have HPerm : Hid (((got ++ [((pe, pn), m)]) ++ rest').Perm σ.bf) := Lib.hid (by
        simpa using ((hperm.symm.append_left got).trans hP.out))
      have HI1 : Hid (RelI w b mw mb σ (curB σ.ep got σ.bf) rest' (nowB σ.ep got) v w1) := by
        have hlt := HLT.out
        have e0 := Hr0.out
        refine Lib.hid ⟨hI.out.o.mods hM1 (by omega), hI.out.wm.mods hM1 (by omega), by rw [e0]; exact hR1, hI.out.own.mods hM1 (fun x hx e => by have := hI.out.nf x hx; omega), hI.out.nf, ?_⟩
        have h1 := (hI.out.e.mono (T := fun x => FF b mw mb x ∨ x = r0) (fun _ _ h => .inl h)).trans hM1 (fun _ _ h => .inr h)
        exact h1.mono (fun x hx h => h.elim id (fun h => by omega))
      clear hR1 hM1 hen hperm hpm hrg hP hI
      unfold Ms.val plV at hrun
      go_upto_region 4 with fail
      clear hrun
      refine wp_region_line [(0,1),(1,0),(2,0),(3,2),(4,2),(5,3),(6,3)] (by kernel_rfl) (by kernel_rfl) (Ext w1) (fun _ _ h k => h.trans k) (Ext.refl _) ?_
      refine Fx.look rfl rfl (fun w' hC => op_entry (HEn.out w' hC) rfl) (by simp only [List.set_cons_zero, List.set_cons_succ]; rfl) ?_
      refine Fx.pure_ (v := plV (pe, pn)) rfl rfl (fun _ => by unfold plV; first | (go_simp; done) | (go_simp; rfl)) (by simp only [List.set_cons_zero, List.set_cons_succ]; rfl) ?_
      refine Fx.pure_ (v := m.val) rfl rfl (fun _ => by unfold Ms.val; first | (go_simp; done) | (go_simp; rfl)) (by simp only [List.set_cons_zero, List.set_cons_succ]; rfl) ?_
      refine Fx.mkPtr (fun B w' => w1.heap.size ≤ B ∧ Obj_ w' B 2 (plF (0, 0))) (fun B _ _ h k => ⟨h.1, h.2.ext k⟩) rfl rfl (fun w' hC => stepAt_alloc_Pl hC) (fun B4 => ?_)
      simp only [List.set_cons_zero, List.set_cons_succ]
      refine Fx.mkPtr (fun B w' => B4 < B ∧ Obj_ w' B 3 (msF ms0)) (fun B _ _ h k => ⟨h.1, h.2.ext k⟩) rfl rfl (fun w' hC => stepAt_mono (stepAt_alloc_Ms (Ext.refl w')) (fun u w'' hh => by
        obtain ⟨B, h1, h2, h3, h4⟩ := hh
        exact ⟨B, h1, h2, Nat.lt_of_lt_of_le hC.2.2.lt h3, h4⟩)) (fun B5 => ?_)
      simp only [List.set_cons_zero, List.set_cons_succ]
      refine Fx.eff0 (fun w' => Ext w1 w' ∧ Obj_ w' B4 2 (plF (pe, pn)) ∧ w1.heap.size ≤ B4 ∧ B4 < B5 ∧ Obj_ w' B5 3 (msF ms0)) (fun _ _ h k => ⟨h.1.trans k, h.2.1.ext k, h.2.2.1, h.2.2.2.1, h.2.2.2.2.ext k⟩) rfl rfl (fun w' hC => stepAt_mono (stepAt_put_Pl hC.1.2.2 (pe, pn) rfl rfl) (fun _ w'' hh => ?_)) ?_
      · obtain ⟨⟨i1, i2, i3⟩, j1, j2⟩ := hC
        exact ⟨((i1.mods (· = B4)).trans hh.1 (fun _ _ h => h)).ext_of (fun z hz e => by omega), hh.2, i2, j1, j2.mods hh.1 (by omega)⟩
      refine Fx.eff0 (fun w' => Ext w1 w' ∧ Obj_ w' B4 2 (plF (pe, pn)) ∧ Obj_ w' B5 3 (msF m) ∧ w1.heap.size ≤ B4 ∧ B4 < B5) (fun _ _ h k => ⟨h.1.trans k, h.2.1.ext k, h.2.2.1.ext k, h.2.2.2⟩) rfl rfl (fun w' hC => stepAt_mono (stepAt_put_Ms hC.2.2.2.2 m rfl rfl) (fun _ w'' hh => ?_)) ?_
      · obtain ⟨i1, i2, i3, j1, j2⟩ := hC
        exact ⟨((i1.mods (· = B5)).trans hh.1 (fun _ _ h => h)).ext_of (fun z hz e => by omega), i2.mods hh.1 (by omega), hh.2, i3, j1⟩
      refine Fx.done (fun w2 hC => ?_)
      obtain ⟨hE, hO4, hO5, hb4, hb5⟩ := hC
      have HB : Hid (B4 ≠ mb ∧ B5 ≠ mb) := Lib.hid (by
        have h1 := HI1.out.e.size
        have h2 := HLT.out
        omega)
      have HO4 := Lib.hid hO4
      have HO5 := Lib.hid hO5
      have HI2 := Lib.hid (HI1.out.ext hE)
      have HL2 : Hid (restLen w2 r0 mb + 1 = restLen wr r0 mb) := Lib.hid (by rw [← HL1.out, ← Hr0.out, HI2.out.rg.restLen, HI1.out.rg.restLen])
      have p0 := hO4.cell 0 (by decide)
      have p1 := hO4.cell 1 (by decide)
      have pl := hO4.lt
      simp only [plF, List.getD_cons_zero, List.getD_cons_succ] at p0 p1
      have c0 := HI2.out.o.cell 0 (by decide)
      have lb := HI2.out.o.lt
      simp only [fwF, Hep.out] at c0
      clear hE hO4 hO5 hb4 hb5 HI1 HL1 HEn HR1 HRL
      by_cases hgt : ep < pe
      · go_upto_region 5 with fail
        refine wp_region_plan [(0,0),(1,1),(2,0),(3,0),(4,0),(5,1),(6,0)] (by kernel_rfl) (by kernel_rfl) (by kernel_rfl) (Ext w2) (fun _ _ h k => h.trans k) (Ext.drawn _ _) ?_
        iterate 5
          first
            | refine Fx.skip rfl rfl (by simp only [List.set_cons_zero, List.set_cons_succ]; rfl) ?_
            | (with_reducible refine Fx.lab0 ?_
               first
                 | refine Fx.moveT rfl rfl rfl (by simp only [List.set_cons_zero, List.set_cons_succ]; rfl) ?_
                 | refine Fx.assignT rfl rfl rfl (by simp only [List.set_cons_zero, List.set_cons_succ]; rfl) ?_
                 | refine Fx.pure_ rfl rfl (fun _ => by go_simp; first | done | rfl) (by simp only [List.set_cons_zero, List.set_cons_succ]; rfl) ?_)
            | (with_reducible refine Fx.lab1 ?_
               refine Fx.look rfl rfl (fun w' hC => by obtain ⟨hc, hf, hl⟩ := Ext.cells hC; go_simp; rfl) (by simp only [List.set_cons_zero, List.set_cons_succ]; rfl) ?_)
        refine Fx.call1 (v := .int .u32 ep) (args := #[.pointer (some ⟨b, 0, none⟩)]) rfl rfl (fun _ => by first | (go_simp; done) | (go_simp; rfl)) (fun w' hC => (era_in (w := w') ((hC.cells.1 _ _ lb).trans c0)).mono (fun e w'' hh => ⟨hh.1, by rw [hh.2]; exact Ext.refl _⟩)) (by simp only [List.set_cons_zero, List.set_cons_succ]; rfl) ?_
        refine Fx.pure_ (v := .bool true) rfl rfl (fun _ => by first | (go_simp; done) | (go_simp; rfl)) (by simp only [List.set_cons_zero, List.set_cons_succ]; rfl) ?_
        refine Fx.done (fun w3 hC => ?_)
        have HI3 := Lib.hid (HI2.out.ext hC)
        have HL3 : Hid (restLen w3 r0 mb + 1 = restLen wr r0 mb) := Lib.hid (by rw [← HL2.out, ← Hr0.out, HI2.out.rg.restLen, HI3.out.rg.restLen])
        clear hC p0 p1 pl c0 lb
        go_wp2
        go_roundw
        case rel => exact ⟨_, got ++ [((pe, pn), m)], rest', rfl, HPerm, by
          rw [curB_keep (p := ((pe, pn), m)) (by rw [Hep.out]; exact hgt), nowB_no (p := ((pe, pn), m)) (by rw [Hep.out]; show pe ≠ ep; omega)]; exact HI3⟩
        case measure => have := HL3.out; omega
      · go_upto_region 5 with fail
        refine wp_region_plan [(0,0),(1,1),(2,0),(3,0),(4,0),(5,1),(6,0)] (by kernel_rfl) (by kernel_rfl) (by kernel_rfl) (Ext w2) (fun _ _ h k => h.trans k) (Ext.drawn _ _) ?_
        iterate 5
          first
            | refine Fx.skip rfl rfl (by simp only [List.set_cons_zero, List.set_cons_succ]; rfl) ?_
            | (with_reducible refine Fx.lab0 ?_
               first
                 | refine Fx.moveT rfl rfl rfl (by simp only [List.set_cons_zero, List.set_cons_succ]; rfl) ?_
                 | refine Fx.assignT rfl rfl rfl (by simp only [List.set_cons_zero, List.set_cons_succ]; rfl) ?_
                 | refine Fx.pure_ rfl rfl (fun _ => by go_simp; first | done | rfl) (by simp only [List.set_cons_zero, List.set_cons_succ]; rfl) ?_)
            | (with_reducible refine Fx.lab1 ?_
               refine Fx.look rfl rfl (fun w' hC => by obtain ⟨hc, hf, hl⟩ := Ext.cells hC; go_simp; rfl) (by simp only [List.set_cons_zero, List.set_cons_succ]; rfl) ?_)
        refine Fx.call1 (v := .int .u32 ep) (args := #[.pointer (some ⟨b, 0, none⟩)]) rfl rfl (fun _ => by first | (go_simp; done) | (go_simp; rfl)) (fun w' hC => (era_in (w := w') ((hC.cells.1 _ _ lb).trans c0)).mono (fun e w'' hh => ⟨hh.1, by rw [hh.2]; exact Ext.refl _⟩)) (by simp only [List.set_cons_zero, List.set_cons_succ]; rfl) ?_
        refine Fx.pure_ (v := .bool false) rfl rfl (fun _ => by first | (go_simp; done) | (go_simp; rfl)) (by simp only [List.set_cons_zero, List.set_cons_succ]; rfl) ?_
        refine Fx.done (fun w3 hC => ?_)
        have HI3 := Lib.hid (HI2.out.ext hC)
        have HL3 : Hid (restLen w3 r0 mb + 1 = restLen wr r0 mb) := Lib.hid (by rw [← HL2.out, ← Hr0.out, HI2.out.rg.restLen, HI3.out.rg.restLen])
        have HO43 := Lib.hid (HO4.out.ext hC)
        have HO53 := Lib.hid (HO5.out.ext hC)
        clear hC p0 p1 pl c0 lb HO4 HO5 HI2 HL2
        have p0 := HO43.out.cell 0 (by decide)
        have p1 := HO43.out.cell 1 (by decide)
        have pl := HO43.out.lt
        simp only [plF, List.getD_cons_zero, List.getD_cons_succ] at p0 p1
        have c3 := HI3.out.o.cell 3 (by decide)
        have lb := HI3.out.o.lt
        simp only [fwF] at c3
        have hgt' : Hid (¬ ep < pe) := Lib.hid hgt
        clear hgt
        have hnin : (pe, pn) ∉ rest'.map (·.1) := by
          have h1 : (((got ++ [((pe, pn), m)]) ++ rest').map (·.1)).Nodup := (HPerm.out.map (·.1)).nodup_iff.2 HN.out
          rw [List.map_append, List.map_append, List.nodup_append] at h1
          exact fun hm => h1.2.2 (pe, pn) (by simp) (pe, pn) hm rfl
        have HNin := Lib.hid hnin
        clear hnin
        go_upto_region 6 with fail
        refine wp_region_plan [(0,0),(1,0),(2,0),(3,1),(4,1),(5,3)] (by kernel_rfl) (by kernel_rfl) (by kernel_rfl) (Ext w3) (fun _ _ h k => h.trans k) (Ext.drawn _ _) ?_
        iterate 4
          first
            | refine Fx.skip rfl rfl (by simp only [List.set_cons_zero, List.set_cons_succ]; rfl) ?_
            | (with_reducible refine Fx.lab0 ?_
               first
                 | refine Fx.moveT rfl rfl rfl (by simp only [List.set_cons_zero, List.set_cons_succ]; rfl) ?_
                 | refine Fx.assignT rfl rfl rfl (by simp only [List.set_cons_zero, List.set_cons_succ]; rfl) ?_
                 | refine Fx.pure_ rfl rfl (fun _ => by go_simp; first | done | rfl) (by simp only [List.set_cons_zero, List.set_cons_succ]; rfl) ?_)
            | (with_reducible refine Fx.lab1 ?_
               refine Fx.look rfl rfl (fun w' hC => by obtain ⟨hc, hf, hl⟩ := Ext.cells hC; go_simp; rfl) (by simp only [List.set_cons_zero, List.set_cons_succ]; rfl) ?_)
        refine Fx.look rfl rfl (op_load_Pl' (f := pe) (c := pn) pl p0 p1 rfl) (by simp only [List.set_cons_zero, List.set_cons_succ]; rfl) ?_
        refine Fx.eff0 (fun w' => RgIs w' w.heap.size mb plV Ms.val (kdel (pe, pn) (curB σ.ep got σ.bf)) rest' ∧ Mods (· = mb) w3 w') (fun _ _ h k => ⟨h.1.ext k, h.2.then_ k⟩) rfl rfl (fun w' hC => stepAt_mono (stepAt_rdel (HI3.out.rg.ext hC) keysPl Try.underlying69 HNin.out rfl rfl) (fun _ w'' hh => ⟨hh.1, hh.2.after hC⟩)) ?_
        refine Fx.done (fun w4 hC => ?_)
        obtain ⟨hRg, hMd⟩ := hC
        have hlt := HLT.out
        have e0 := Hr0.out
        have hd := H.out.d3
        have hd2 := H.out.d2
        have HI4 : Hid (RelI w b mw mb σ (curB σ.ep (got ++ [((pe, pn), m)]) σ.bf) rest' (nowB σ.ep got) v w4) := by
          refine Lib.hid ⟨HI3.out.o.mods hMd hd2, HI3.out.wm.mods hMd hd, ?_, HI3.out.own.mods hMd (fun x hx e => by have := HI3.out.nf x hx; omega), HI3.out.nf, HI3.out.e.trans hMd (fun x _ e => .inr (.inr e))⟩
          have := curB_del (ep := σ.ep) (got := got) (p := ((pe, pn), m)) HN.out (by rw [Hep.out]; exact hgt'.out)
          rw [← this]; exact hRg
        have HL4 : Hid (restLen w4 r0 mb + 1 = restLen wr r0 mb) := Lib.hid (by rw [← HL3.out, ← Hr0.out, HI4.out.rg.restLen, HI3.out.rg.restLen])
        have HO44 := Lib.hid (HO43.out.mods hMd HB.out.1)
        have HO54 := Lib.hid (HO53.out.mods hMd HB.out.2)
        clear hRg hMd hlt e0 hd hd2 p0 p1 pl c3 lb HI3 HL3 HO43 HO53
        have p0 := HO44.out.cell 0 (by decide)
        have p1 := HO44.out.cell 1 (by decide)
        have pl := HO44.out.lt
        simp only [plF, List.getD_cons_zero, List.getD_cons_succ] at p0 p1
        have c0 := HI4.out.o.cell 0 (by decide)
        have lb := HI4.out.o.lt
        simp only [fwF, Hep.out] at c0
        obtain ⟨q, hq⟩ : ∃ q, decide (pe = ep) = q := ⟨_, rfl⟩
        have Hq := Lib.hid hq
        have hq' : (pe == ep) = q := by rw [← hq]; by_cases h : pe = ep <;> simp [h]
        clear hq
        go_upto_region 7 with fail
        refine wp_region_plan [(0,0),(1,1),(2,0),(3,0),(4,0),(5,1),(6,0)] (by kernel_rfl) (by kernel_rfl) (by kernel_rfl) (Ext w4) (fun _ _ h k => h.trans k) (Ext.drawn _ _) ?_
        iterate 5
          first
            | refine Fx.skip rfl rfl (by simp only [List.set_cons_zero, List.set_cons_succ]; rfl) ?_
            | (with_reducible refine Fx.lab0 ?_
               first
                 | refine Fx.moveT rfl rfl rfl (by simp only [List.set_cons_zero, List.set_cons_succ]; rfl) ?_
                 | refine Fx.assignT rfl rfl rfl (by simp only [List.set_cons_zero, List.set_cons_succ]; rfl) ?_
                 | refine Fx.pure_ rfl rfl (fun _ => by go_simp; first | done | rfl) (by simp only [List.set_cons_zero, List.set_cons_succ]; rfl) ?_)
            | (with_reducible refine Fx.lab1 ?_
               refine Fx.look rfl rfl (fun w' hC => by obtain ⟨hc, hf, hl⟩ := Ext.cells hC; go_simp; rfl) (by simp only [List.set_cons_zero, List.set_cons_succ]; rfl) ?_)
        refine Fx.call1 (v := .int .u32 ep) (args := #[.pointer (some ⟨b, 0, none⟩)]) rfl rfl (fun _ => by first | (go_simp; done) | (go_simp; rfl)) (fun w' hC => (era_in (w := w') ((hC.cells.1 _ _ lb).trans c0)).mono (fun e w'' hh => ⟨hh.1, by rw [hh.2]; exact Ext.refl _⟩)) (by simp only [List.set_cons_zero, List.set_cons_succ]; rfl) ?_
        refine Fx.pure_ (v := .bool q) rfl rfl (fun _ => by first | (go_simp; done) | (go_simp; rfl)) (by simp only [List.set_cons_zero, List.set_cons_succ]; rfl) ?_
        refine Fx.done (fun w5 hC => ?_)
        have HI5 := Lib.hid (HI4.out.ext hC)
        have HL5 : Hid (restLen w5 r0 mb + 1 = restLen wr r0 mb) := Lib.hid (by rw [← HL4.out, ← Hr0.out, HI4.out.rg.restLen, HI5.out.rg.restLen])
        have HO45 := Lib.hid (HO44.out.ext hC)
        have HO55 := Lib.hid (HO54.out.ext hC)
        clear hC p0 p1 pl c0 lb hq' HI4 HL4 HO44 HO54
        cases q with
        | false =>
          go_wp2
          go_roundw
          case rel => exact ⟨_, got ++ [((pe, pn), m)], rest', rfl, HPerm, by
            rw [nowB_no (p := ((pe, pn), m)) (by rw [Hep.out]; show pe ≠ ep; exact of_decide_eq_false Hq.out)]; exact HI5⟩
          case measure => have := HL5.out; omega
        | true =>
          have p0 := HO45.out.cell 0 (by decide)
          have p1 := HO45.out.cell 1 (by decide)
          have pl := HO45.out.lt
          simp only [plF, List.getD_cons_zero, List.getD_cons_succ] at p0 p1
          obtain ⟨m0, m1, m2⟩ := HO55.out.ms
          have ml := HO55.out.lt
          have hn : (nowB σ.ep got).length + 1 ≤ 1073741824 := by
            have h1 := HPerm.out.length_eq
            have h2 := nowB_len σ.ep got
            have := HLn.out
            simp at h1; omega
          have HNl := Lib.hid hn
          clear hn
          go_upto_region 8 with fail
          refine wp_region_line [(0,0),(1,0),(2,1),(3,0),(4,1),(5,1),(6,0),(7,2),(8,3),(9,0)] (by kernel_rfl) (by kernel_rfl) (Ext w5) (fun _ _ h k => h.trans k) (Ext.refl _) ?_
          iterate 5
            first
              | refine Fx.skip rfl rfl (by simp only [List.set_cons_zero, List.set_cons_succ]; rfl) ?_
              | (with_reducible refine Fx.lab0 ?_
                 first
                   | refine Fx.moveT rfl rfl rfl (by simp only [List.set_cons_zero, List.set_cons_succ]; rfl) ?_
                   | refine Fx.assignT rfl rfl rfl (by simp only [List.set_cons_zero, List.set_cons_succ]; rfl) ?_
                   | refine Fx.pure_ rfl rfl (fun _ => by go_simp; first | done | rfl) (by simp only [List.set_cons_zero, List.set_cons_succ]; rfl) ?_)
              | (with_reducible refine Fx.lab1 ?_
                 refine Fx.look rfl rfl (fun w' hC => by obtain ⟨hc, hf, hl⟩ := Ext.cells hC; go_simp; rfl) (by simp only [List.set_cons_zero, List.set_cons_succ]; rfl) ?_)
          refine Fx.look rfl rfl (op_load_Ms' (m := m) ml m0 m1 m2 rfl) (by simp only [List.set_cons_zero, List.set_cons_succ]; rfl) ?_
          refine Fx.pure_ (v := (nbOf ((pe, pn), m)).val) rfl rfl (fun _ => by unfold Nb.val nbOf Ms.val; first | (go_simp; done) | (go_simp; rfl)) (by simp only [List.set_cons_zero, List.set_cons_succ]; rfl) ?_
          refine Fx.mkSl 1 1 (fun B w' => w5.heap.size ≤ B ∧ NbL w' (.slice (some ⟨B, 0, none⟩) 1 1) [nbOf ((pe, pn), m)]) (fun B _ _ h k => ⟨h.1, h.2.ext k⟩) rfl rfl (fun w' hC => stepAt_lit1N hC (nbOf ((pe, pn), m)) rfl) (fun B2 => ?_)
          simp only [List.set_cons_zero, List.set_cons_succ]
          refine Fx.eff (fun v' w' => OwnNb w' v' (nowB σ.ep got ++ [nbOf ((pe, pn), m)]) ∧ Mods (fun c => v.ownBlock = some c) w5 w' ∧ (∀ c, v'.ownBlock = some c → v.ownBlock = some c ∨ w5.heap.size ≤ c)) (fun v _ _ h k => ⟨h.1.ext k, h.2.1.then_ k, h.2.2⟩) rfl rfl
            (fun w' hC => stepAt_appendN hC.1 (HI5.out.own.ext hC.1) hC.2.2 (by have := HNl.out; simpa using this) rfl rfl) (fun lv' => ?_)
          simp only [List.set_cons_zero, List.set_cons_succ]
          first
            | refine Fx.skip rfl rfl (by simp only [List.set_cons_zero, List.set_cons_succ]; rfl) ?_
            | (with_reducible refine Fx.lab0 ?_
               first
                 | refine Fx.moveT rfl rfl rfl (by simp only [List.set_cons_zero, List.set_cons_succ]; rfl) ?_
                 | refine Fx.assignT rfl rfl rfl (by simp only [List.set_cons_zero, List.set_cons_succ]; rfl) ?_
                 | refine Fx.pure_ rfl rfl (fun _ => by go_simp; first | done | rfl) (by simp only [List.set_cons_zero, List.set_cons_succ]; rfl) ?_)
            | (with_reducible refine Fx.lab1 ?_
               refine Fx.look rfl rfl (fun w' hC => by obtain ⟨hc, hf, hl⟩ := Ext.cells hC; go_simp; rfl) (by simp only [List.set_cons_zero, List.set_cons_succ]; rfl) ?_)
          refine Fx.done (fun w6 hC => ?_)
          obtain ⟨hA1, hA2, hA3⟩ := hC
          have hlt := HLT.out
          have e0 := Hr0.out
          have hnf := HI5.out.nf
          have HI6 : Hid (RelI w b mw mb σ (curB σ.ep (got ++ [((pe, pn), m)]) σ.bf) rest' (nowB σ.ep (got ++ [((pe, pn), m)])) lv' w6) := by
            refine Lib.hid ⟨HI5.out.o.mods hA2 (fun h => by have := hnf _ h; omega), HI5.out.wm.mods hA2 (fun h => by have := hnf _ h; omega), HI5.out.rg.mods hA2 (fun h => by have := hnf _ h; omega) (fun h => by have := hnf _ h; omega), ?_, fun x hx => (hA3 x hx).elim (hnf x) (fun h => ?_), ?_⟩
            · rw [nowB_yes (p := ((pe, pn), m)) (by rw [Hep.out]; exact of_decide_eq_true Hq.out)]; exact hA1
            · have := HI5.out.rg.ltr; omega
            · refine ((HI5.out.e.mono (T := fun x => FF b mw mb x ∨ v.ownBlock = some x) (fun _ _ h => .inl h)).trans hA2 (fun _ _ h => .inr h)).mono (fun x hx h => h.elim id (fun h => by have := hnf _ h; omega))
          have HL6 : Hid (restLen w6 r0 mb + 1 = restLen wr r0 mb) := Lib.hid (by rw [← HL5.out, ← Hr0.out, HI6.out.rg.restLen, HI5.out.rg.restLen])
          clear hA1 hA2 hA3 hlt e0 hnf p0 p1 pl m0 m1 m2 ml HI5 HL5
          go_wp2
          go_roundw
          case rel => exact ⟨_, got ++ [((pe, pn), m)], rest', rfl, HPerm, HI6⟩
          case measure => have := HL6.out; omega
end Go.Proofs.Ytokljdkeegdniaa
