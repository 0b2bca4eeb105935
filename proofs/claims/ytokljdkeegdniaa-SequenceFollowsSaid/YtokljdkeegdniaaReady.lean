/-
  sequence.Follower: ready, an iterator that keeps its place.
-/
import Derived.Test.YtokljdkeegdniaaFw
import Derived.Test.YtokljdkeegdniaaMapRange
import Derived.LoopIn
import Derived.Shelf.Abstract
import Derived.LoopNIn
import Derived.Sort.CutIn
import Derived.TacticsInMore
namespace Go.Proofs.Ytokljdkeegdniaa
open Go.RowKit
attribute [local go_sem] Oper.semAt_some

theorem callFunc_at (f : FuncId) (hf : Try.prog.funcs[f]?.map (fun x => x.body.isSome && !(x.name == "runtime.NumGoroutine")) = some true) (args : Array Value) (w : World) : (callFunc f args).run Try.prog w = .ok (.enter f args) w := by
  cases hp : Try.prog.funcs[f]? with
  | none => rw [hp] at hf; cases hf
  | some fn =>
    rw [hp] at hf
    simp only [Option.map_some, Option.some.injEq, Bool.and_eq_true, Bool.not_eq_true'] at hf
    obtain ⟨c, hc⟩ := Option.isSome_iff_exists.1 hf.1
    exact Go.Proofs.enters_of hp hf.2 hc args w
def mapLen (r : Nat) (w : World) : Nat := match w.heap[r]? with | some (.map es _) => es.size | _ => 0
theorem mapLen_is {K V : Type} {w : World} {r : Nat} {ek : K → Value} {ev : V → Value} {kv : List (K × V)} (h : MapIs w r ek ev kv) : mapLen r w = kv.length := by
  obtain ⟨X, clock, h1, h2, -⟩ := h.marks
  unfold mapLen
  rw [h1]
  simp [← h2]
def ReadyR (w : World) (b : Nat) (e : Ending) (w' : World) : Prop :=
  ∃ Bn, e = .returned (.func (.func 42) #[] #[.pointer (some ⟨Bn, 0, none⟩)]) ∧ Ext w w' ∧ w.heap.size ≤ Bn ∧ Obj_ w' Bn 1 (fun _ => .pointer (some ⟨b, 0, none⟩))
theorem ready_at (w : World) (b : Nat) : Calls Try.prog 37 #[.pointer (some ⟨b, 0, none⟩)] w (ReadyR w b) := by
  have o1 := Obj_.new w 25 #[.pointer (some ⟨b, 0, none⟩)] (fun _ => .pointer (some ⟨b, 0, none⟩)) (by intro i hi; simp at hi; subst hi; rfl)
  have E1 := Ext.alloc w (.cells #[.pointer (some ⟨b, 0, none⟩)] 25)
  have O1 := Lib.hid o1
  have H1 := Lib.hid E1
  clear o1 E1
  go_enter Try.func37, Try.ntmps37
  go_wp2
  go_ret
  exact ⟨w.heap.size, rfl, H1.out, Nat.le_refl _, O1.out⟩
theorem op_lookW {W : World} {ρ : Act} {d : Option Tmp} {p q : Operand} {t : TypeId} {s : String} {af : Array Edge} {g : Option (Nat × Bool)} {mw : Nat} {kv : List ((Int × Int) × Ms)} {k : Int × Int} {o : Option Ms} (h : MapIs W mw plV Ms.val kv) (ho : kfind k kv = o) (hm : ρ.eval p = .map (some mw)) (hk : ρ.eval q = plV k) (w : World) (hE : Ext W w) :
    (execOp ρ.eval ⟨d, .lookup 69 p q true, t, s, af, g⟩).run Try.prog w = .ok (.value (.tuple #[(o.getD ms0).val, .bool o.isSome])) w := by
  rw [op_look (k := k) (h.ext hE) keysPl Try.underlying69 (Try.zeroValue34 w) hm hk, ho, lookVal]; rfl

set_option maxRecDepth 100000 in
set_option maxHeartbeats 3200000 in
theorem ready_iter {F : Fence} (hF : WideF F) (hro : F.round = none) (n : Nat) (I : Nat → World → Prop) (b mw mb : Nat) (σ : FwSt) (Bb : Nat)
    (hI : ∀ k W, I k W → W.cell? ⟨Bb, 0, none⟩ = some (.pointer (some ⟨b, 0, none⟩)) ∧ FwAt W b mw mb (stK σ k)) (W : World) :
    IterT F n Try.prog 42 #[.pointer (some ⟨Bb, 0, none⟩)] (fun k => #[plV (σ.ep, (stK σ k).nx), ((drain σ).getD k ms0).val]) (drain σ).length I W := by
  intro q J Jx T0 hJ hJx hJI hY h0 hT0
  have HY := Lib.hid hY
  have HJ := Lib.hid hJ
  have HJI := Lib.hid hJI
  have HI := Lib.hid hI
  have H0 := Lib.hid h0
  have HT0 := Lib.hid hT0
  have HD := Lib.hid (fun k m (h : (drain σ)[k]? = some m) => drain_at σ h)
  have HDe := Lib.hid (drain_end σ)
  generalize drain σ = L at *
  obtain ⟨cb, hFw⟩ := hI 0 W (hJI 0 T0 W h0)
  have lbb := cell_lt cb
  obtain ⟨c0, c1, c2, c3, lb⟩ := hFw.cells
  obtain ⟨ep, hep⟩ : ∃ ep, σ.ep = ep := ⟨_, rfl⟩
  have Hep := Lib.hid hep
  have hep0 : (stK σ 0).ep = ep := hep
  obtain ⟨n0, hn0⟩ : ∃ n0, (stK σ 0).nx = n0 := ⟨_, rfl⟩
  have Hn0 := Lib.hid hn0
  rw [hep0] at c0
  rw [hn0] at c1
  rw [hep] at HD HDe HY
  clear hY hJ hJI hI h0 hT0 hJx hFw hep hep0 hn0 c2 c3
  refine callsIn_of_wp Try.func42 rfl (hF.fn _) ?_ hro
  simp only [Try.ntmps42, List.size_toArray, List.length_cons, List.length_nil, Nat.reduceAdd, Nat.reduceSub, Array.replicate_succ, Array.replicate_zero, List.push_toArray, List.append_toArray, List.nil_append, List.cons_append]
  gi_upto_region 0 with fail
  refine wpIn_region_plan hF [(0,1),(1,0),(2,0),(3,1),(4,1),(5,0),(6,0),(7,1),(8,0),(9,2),(10,3)] (by kernel_rfl) (by kernel_rfl) (by kernel_rfl) (Ext W) (fun _ _ h k => h.trans k) (Ext.drawn _ _) ?_
  iterate 3
    first
      | refine Fx.skip rfl rfl (by simp only [List.set_cons_zero, List.set_cons_succ]; rfl) ?_
      | (with_reducible refine Fx.lab0 ?_
         first
           | refine Fx.moveT rfl rfl rfl (by simp only [List.set_cons_zero, List.set_cons_succ]; rfl) ?_
           | refine Fx.assignT rfl rfl rfl (by simp only [List.set_cons_zero, List.set_cons_succ]; rfl) ?_
           | refine Fx.pure_ rfl rfl (fun _ => by go_simp; first | done | rfl) (by simp only [List.set_cons_zero, List.set_cons_succ]; rfl) ?_)
      | (with_reducible refine Fx.lab1 ?_
         refine Fx.look rfl rfl (fun w' hC => by obtain ⟨hc, hf, hl⟩ := Ext.cells hC; go_simp; rfl) (by simp only [List.set_cons_zero, List.set_cons_succ]; rfl) ?_)
  refine Fx.call1 (v := .int .u32 ep) (args := #[.pointer (some ⟨b, 0, none⟩)]) rfl rfl (fun _ => by first | (go_simp; done) | (go_simp; rfl)) (fun w' hC => (era_in (w := w') ((hC.cells.1 _ _ lb).trans c0)).mono (fun e w'' hh => ⟨hh.1, by rw [hh.2]; exact Ext.refl _⟩)) (by simp only [List.set_cons_zero, List.set_cons_succ]; rfl) ?_
  iterate 4
    first
      | refine Fx.skip rfl rfl (by simp only [List.set_cons_zero, List.set_cons_succ]; rfl) ?_
      | (with_reducible refine Fx.lab0 ?_
         first
           | refine Fx.moveT rfl rfl rfl (by simp only [List.set_cons_zero, List.set_cons_succ]; rfl) ?_
           | refine Fx.assignT rfl rfl rfl (by simp only [List.set_cons_zero, List.set_cons_succ]; rfl) ?_
           | refine Fx.pure_ rfl rfl (fun _ => by go_simp; first | done | rfl) (by simp only [List.set_cons_zero, List.set_cons_succ]; rfl) ?_)
      | (with_reducible refine Fx.lab1 ?_
         refine Fx.look rfl rfl (fun w' hC => by obtain ⟨hc, hf, hl⟩ := Ext.cells hC; go_simp; rfl) (by simp only [List.set_cons_zero, List.set_cons_succ]; rfl) ?_)
  refine Fx.pure_ (v := plV (ep, n0)) rfl rfl (fun _ => by unfold plV; first | (go_simp; done) | (go_simp; rfl)) (by simp only [List.set_cons_zero, List.set_cons_succ]; rfl) ?_
  refine Fx.mkPtr (fun B w' => W.heap.size ≤ B ∧ Obj_ w' B 2 (plF (0, 0))) (fun B _ _ h k => ⟨h.1, h.2.ext k⟩) rfl rfl (fun w' hC => stepAt_alloc_Pl hC) (fun B => ?_)
  simp only [List.set_cons_zero, List.set_cons_succ]
  refine Fx.eff0 (PlPre W B (ep, n0)) (plPre_stable _ _ _) rfl rfl (fun w' hC => stepAt_mono (stepAt_store_Pl hC.1 hC.2.1 hC.2.2 (ep, n0) rfl rfl) (fun _ w'' h => ⟨h.1, hC.2.1, h.2⟩)) ?_
  refine Fx.done (fun w1 hC => ?_)
  obtain ⟨hC1, hB, hOb⟩ := hC
  have HOb := Lib.hid hOb
  have HB := Lib.hid hB
  have HJ1 := Lib.hid (HJ.out 0 T0 W w1 (fun _ => False) H0.out (hC1.mods _) (fun _ h => h.elim))
  have HS1 := Lib.hid hC1.size
  clear hC1 hB hOb c0 c1 cb lb lbb
  gi_wp2
  gi_loopw [3] (fun v3 wr => ∃ (k : Nat) (T : Nat → Prop) (B3 : Nat), v3 = .pointer (some ⟨B3, 0, none⟩) ∧ k ≤ L.length ∧ Hid (J k T wr) ∧ Hid (¬ T B3) ∧ Hid (W.heap.size ≤ B3) ∧ Hid (∀ x, T x → x < wr.heap.size) ∧ Hid (Obj_ wr B3 2 (plF (ep, (stK σ k).nx)))) (fun _ wr => mapLen mw wr)
  case atStart => exact ⟨0, T0, B, rfl, Nat.zero_le _, HJ1, Lib.hid (fun h => by have := HT0.out _ h; have := HB.out; omega), HB, Lib.hid (fun x hx => by have := HT0.out x hx; have := HOb.out.lt; have := HB.out; have := HS1.out; omega), by rw [Hn0.out]; exact HOb⟩
  case round =>
    clear HJ1 HB HS1 HOb Hn0
    obtain ⟨k, T, B3, rfl, hk, hJk, hT3, hB3, hTl, hO3⟩ := hrel
    obtain ⟨cb, hFw⟩ := HI.out k wr (HJI.out k T wr hJk.out)
    have lbb := cell_lt cb
    obtain ⟨c0, c1, c2, c3, lb⟩ := hFw.cells
    have HFw := Lib.hid hFw
    have hml := mapLen_is hFw.wm
    have HMl := Lib.hid hml
    obtain ⟨nk, hnk⟩ : ∃ nk, (stK σ k).nx = nk := ⟨_, rfl⟩
    rw [hnk] at hO3
    have Hnk := Lib.hid hnk
    have p0 := hO3.out.cell 0 (by decide)
    have p1 := hO3.out.cell 1 (by decide)
    have pl := hO3.out.lt
    simp only [plF, List.getD_cons_zero, List.getD_cons_succ] at p0 p1
    clear hFw c0 c1 c3 hml hnk
    obtain ⟨o, ho⟩ : ∃ o, kfind (ep, nk) (stK σ k).wt = o := ⟨_, rfl⟩
    have hoL : o = L[k]? := by
      cases hl : L[k]? with
      | none =>
        have : k = L.length := by have := List.getElem?_eq_none_iff.1 hl; omega
        have h2 := HDe.out
        rw [← this, Hnk.out] at h2
        rw [← ho, h2]
      | some m =>
        have h2 := HD.out k m hl
        rw [Hnk.out] at h2
        rw [← ho, h2]
    have Ho := Lib.hid ho
    have HoL := Lib.hid hoL
    clear ho hoL
    gi_upto_region 2 with fail
    refine wpIn_region_plan hF [(0,1),(1,0),(2,0),(3,1),(4,1),(5,1),(6,0),(7,0),(8,0),(9,2),(10,3),(11,0)] (by kernel_rfl) (by kernel_rfl) (by kernel_rfl) (Ext wr) (fun _ _ h k => h.trans k) (Ext.drawn _ _) ?_
    iterate 4
      first
        | refine Fx.skip rfl rfl (by simp only [List.set_cons_zero, List.set_cons_succ]; rfl) ?_
        | (with_reducible refine Fx.lab0 ?_
           first
             | refine Fx.moveT rfl rfl rfl (by simp only [List.set_cons_zero, List.set_cons_succ]; rfl) ?_
             | refine Fx.assignT rfl rfl rfl (by simp only [List.set_cons_zero, List.set_cons_succ]; rfl) ?_
             | refine Fx.pure_ rfl rfl (fun _ => by go_simp; first | done | rfl) (by simp only [List.set_cons_zero, List.set_cons_succ]; rfl) ?_)
        | (with_reducible refine Fx.lab1 ?_
           refine Fx.look rfl rfl (fun w' hC => by obtain ⟨hc, hf, hl⟩ := Ext.cells hC; go_simp; rfl) (by simp only [List.set_cons_zero, List.set_cons_succ]; rfl) ?_)
    refine Fx.look rfl rfl (op_load_Pl' (f := ep) (c := nk) pl p0 p1 rfl) (by simp only [List.set_cons_zero, List.set_cons_succ]; rfl) ?_
    refine Fx.look (v := .tuple #[(o.getD ms0).val, .bool o.isSome]) rfl rfl (op_lookW (k := (ep, nk)) HFw.out.wm Ho.out rfl rfl) (by simp only [List.set_cons_zero, List.set_cons_succ]; rfl) ?_
    iterate 3
      first
        | refine Fx.skip rfl rfl (by simp only [List.set_cons_zero, List.set_cons_succ]; rfl) ?_
        | (with_reducible refine Fx.lab0 ?_
           first
             | refine Fx.moveT rfl rfl rfl (by simp only [List.set_cons_zero, List.set_cons_succ]; rfl) ?_
             | refine Fx.assignT rfl rfl rfl (by simp only [List.set_cons_zero, List.set_cons_succ]; rfl) ?_
             | refine Fx.pure_ rfl rfl (fun _ => by go_simp; first | done | rfl) (by simp only [List.set_cons_zero, List.set_cons_succ]; rfl) ?_)
        | (with_reducible refine Fx.lab1 ?_
           refine Fx.look rfl rfl (fun w' hC => by obtain ⟨hc, hf, hl⟩ := Ext.cells hC; go_simp; rfl) (by simp only [List.set_cons_zero, List.set_cons_succ]; rfl) ?_)
    refine Fx.mkPtr (fun B w' => wr.heap.size ≤ B ∧ Obj_ w' B 3 (msF ms0)) (fun B _ _ h k => ⟨h.1, h.2.ext k⟩) rfl rfl (fun w' hC => stepAt_alloc_Ms hC) (fun B4 => ?_)
    simp only [List.set_cons_zero, List.set_cons_succ]
    refine Fx.eff0 (MsPre wr B4 (o.getD ms0)) (msPre_stable _ _ _) rfl rfl (fun w' hC => stepAt_mono (stepAt_store_Ms hC.1 hC.2.1 hC.2.2 (o.getD ms0) rfl rfl) (fun _ w'' h => ⟨h.1, hC.2.1, h.2⟩)) ?_
    first
      | refine Fx.skip rfl rfl (by simp only [List.set_cons_zero, List.set_cons_succ]; rfl) ?_
      | (with_reducible refine Fx.lab0 ?_
         first
           | refine Fx.moveT rfl rfl rfl (by simp only [List.set_cons_zero, List.set_cons_succ]; rfl) ?_
           | refine Fx.assignT rfl rfl rfl (by simp only [List.set_cons_zero, List.set_cons_succ]; rfl) ?_
           | refine Fx.pure_ rfl rfl (fun _ => by go_simp; first | done | rfl) (by simp only [List.set_cons_zero, List.set_cons_succ]; rfl) ?_)
      | (with_reducible refine Fx.lab1 ?_
         refine Fx.look rfl rfl (fun w' hC => by obtain ⟨hc, hf, hl⟩ := Ext.cells hC; go_simp; rfl) (by simp only [List.set_cons_zero, List.set_cons_succ]; rfl) ?_)
    refine Fx.done (fun w2 hC => ?_)
    obtain ⟨hC2, -, hO4⟩ := hC
    have hE2 := hC2
    have HE2 := Lib.hid hC2
    obtain ⟨xc, xf, xl⟩ := hC2.cells
    replace p0 := (xc _ _ pl).trans p0
    replace p1 := (xc _ _ pl).trans p1
    replace pl := xl _ pl
    have hJ2 := HJ.out k T wr w2 (fun _ => False) hJk.out (hC2.mods _) (fun _ h => h.elim)
    have HJ2 := Lib.hid hJ2
    have HO32 := Lib.hid (hO3.out.ext hC2)
    clear hC2 cb lbb c2 lb xc xf xl hE2 hJ2
    by_cases hlt : k < L.length
    · obtain ⟨y, hy⟩ : ∃ y, L[k]? = some y := ⟨L[k], by simp [hlt]⟩
      have hgk : L.getD k ms0 = y := by rw [List.getD_eq_getElem?_getD, hy]; rfl
      obtain rfl : o = some y := by rw [HoL.out, hy]
      obtain ⟨d0, d1, d2⟩ := hO4.ms
      have dl := hO4.lt
      simp only [Option.getD_some] at d0 d1 d2
      obtain ⟨fn, tmps, assign, body, hyv, hR⟩ := HY.out k T w2 hlt HJ2.out
      rw [hgk, Hnk.out] at hyv
      unfold plV Ms.val at hyv
      simp only [Option.isSome_some, Option.getD_some]
      clear hgk hO4 hy
      gi_wp2
      refine ⟨(fun hs => by (rw [hF.depth] at hs; cases hs)), hR.mono ?_⟩
      rintro e W' ⟨T', hMd, hTs, hTl', (⟨rfl, hJ'⟩ | ⟨rfl, hJ'⟩)⟩
      · have O3 := Lib.hid (HO32.out.mods hMd hT3.out)
        have HT3' : Hid (¬ T' B3) := Lib.hid (fun h => (hTs _ h).elim hT3.out (fun h => by have := hO3.out.lt; have := HE2.out.size; omega))
        have HTl' := Lib.hid hTl'
        have H' := Lib.hid hJ'
        obtain ⟨cb', hFw'⟩ := HI.out (k + 1) W' (HJI.out _ _ _ hJ')
        have HFw' := Lib.hid hFw'
        clear d0 d1 d2 dl p0 p1 pl hMd hTs hTl' hJ' hFw' cb' hR hyv
        have p0 := O3.out.cell 0 (by decide)
        have p1 := O3.out.cell 1 (by decide)
        have pl := O3.out.lt
        simp only [plF, List.getD_cons_zero, List.getD_cons_succ] at p0 p1
        gi_upto_region 4 with fail
        refine wpIn_region_line hF [(0,1)] (by kernel_rfl) (by kernel_rfl) (Ext W') (fun _ _ h k => h.trans k) (Ext.refl _) ?_
        refine Fx.look rfl rfl (op_load_Pl' (f := ep) (c := nk) pl p0 p1 rfl) (by simp only [List.set_cons_zero, List.set_cons_succ]; rfl) ?_
        refine Fx.done (fun w3 hC => ?_)
        have HE3 := Lib.hid hC
        clear hC p0 p1 pl
        gi_upto_region 5 with fail
        refine wpIn_region_line hF [(0,2),(1,3)] (by kernel_rfl) (by kernel_rfl) (Ext w3) (fun _ _ h k => h.trans k) (Ext.refl _) ?_
        refine Fx.mkPtr (fun B w' => w3.heap.size ≤ B ∧ Obj_ w' B 2 (plF (0, 0))) (fun B _ _ h k => ⟨h.1, h.2.ext k⟩) rfl rfl (fun w' hC => stepAt_alloc_Pl hC) (fun B5 => ?_)
        simp only [List.set_cons_zero, List.set_cons_succ]
        refine Fx.eff0 (PlPre w3 B5 (ep, nk)) (plPre_stable _ _ _) rfl rfl (fun w' hC => stepAt_mono (stepAt_store_Pl hC.1 hC.2.1 hC.2.2 (ep, nk) rfl rfl) (fun _ w'' h => ⟨h.1, hC.2.1, h.2⟩)) ?_
        refine Fx.done (fun w4 hC => ?_)
        obtain ⟨hC4, hB5, hO5⟩ := hC
        have HE4 := Lib.hid (HE3.out.trans hC4)
        have HB5 := Lib.hid hB5
        have HO5 := Lib.hid hO5
        have hs3 := HE3.out.size
        have p1 := hO5.cell 1 (by decide)
        have f1 := hO5.free 1
        have pl := hO5.lt
        simp only [plF, List.getD_cons_zero, List.getD_cons_succ] at p1
        clear hC4 hB5 hO5
        gi_upto_region 1 with fail
        refine wpIn_region_line hF [(0,0),(1,1),(2,0),(3,0),(4,3)] (by kernel_rfl) (by kernel_rfl) (Ext w4) (fun _ _ h k => h.trans k) (Ext.refl _) ?_
        iterate 4
          first
            | refine Fx.skip rfl rfl (by simp only [List.set_cons_zero, List.set_cons_succ]; rfl) ?_
            | (with_reducible refine Fx.lab0 ?_
               first
                 | refine Fx.moveT rfl rfl rfl (by simp only [List.set_cons_zero, List.set_cons_succ]; rfl) ?_
                 | refine Fx.assignT rfl rfl rfl (by simp only [List.set_cons_zero, List.set_cons_succ]; rfl) ?_
                 | refine Fx.pure_ rfl rfl (fun _ => by go_simp; first | done | rfl) (by simp only [List.set_cons_zero, List.set_cons_succ]; rfl) ?_)
            | (with_reducible refine Fx.lab1 ?_
               refine Fx.look rfl rfl (fun w' hC => by obtain ⟨hc, hf, hl⟩ := Ext.cells hC; go_simp; rfl) (by simp only [List.set_cons_zero, List.set_cons_succ]; rfl) ?_)
        refine Fx.store ⟨B5, 1, none⟩ (.int .u32 (IntKind.u32.wrap (nk + 1))) rfl rfl (fun w' hC => by obtain ⟨hc, hf, hl⟩ := Ext.cells hC; go_simp) ?_
        refine Fx.done (fun w5 hC => ?_)
        obtain ⟨wx, x1, x2⟩ := hC
        have hE5 : Ext W' w5 := (((HE4.out.trans x1).setNew (p := ⟨B5, 1, none⟩) (by have := HB5.out; show W'.heap.size ≤ B5; omega) (.int .u32 (IntKind.u32.wrap (nk + 1)))).trans x2)
        have hO5 : Obj_ w5 B5 2 (plF (ep, IntKind.u32.wrap (nk + 1))) := (((HO5.out.ext x1).set (i := 1) (by decide) (.int .u32 (IntKind.u32.wrap (nk + 1)))).ext x2).congr (fun i hi => by
          match i, hi with
          | 0, _ => rfl
          | 1, _ => rfl)
        have HE5 := Lib.hid hE5
        have HO5' := Lib.hid hO5
        clear x1 x2 hE5 hO5 p1 f1 pl
        gi_wp2
        go_roundw
        case rel =>
          refine ⟨k + 1, T', B5, rfl, by omega, Lib.hid (HJ.out (k + 1) T' W' w5 (fun _ => False) H'.out (HE5.out.mods _) (fun _ h => h.elim)), Lib.hid (fun h => ?_), Lib.hid ?_, Lib.hid (fun x hx => ?_), ?_⟩
          · have := HTl'.out _ h
            have := HB5.out
            omega
          · have := HB5.out
            have := hB3.out
            have := O3.out.lt
            omega
          · have := HTl'.out x hx
            have := HE5.out.size
            omega
          · have : (stK σ (k + 1)).nx = IntKind.u32.wrap (nk + 1) := by show IntKind.u32.wrap ((stK σ k).nx + 1) = _; rw [Hnk.out]
            rw [this]; exact HO5'
        case measure =>
          rw [HMl.out, mapLen_is (HFw'.out.wm.ext HE5.out)]
          show (kdel ((stK σ k).ep, (stK σ k).nx) (stK σ k).wt).length < _
          rw [stK_ep, Hep.out, Hnk.out]
          have := kdel_len Ho.out
          omega
      · have H' := Lib.hid hJ'
        clear hJ' hR hyv d0 d1 d2 dl p0 p1 pl
        gi_wp2
        refine bodyPost_ret (results_none rfl _ _ _) rfl ?_
        exact ⟨⟨_, rfl⟩, T', .inr ⟨k + 1, by omega, H'.out⟩⟩
    · obtain rfl : o = none := by rw [HoL.out]; exact List.getElem?_eq_none_iff.2 (by omega)
      simp only [Option.isSome_none, Option.getD_none]
      clear hO4 p0 p1 pl
      gi_wp2
      refine ⟨(fun f h => by cases h), ?_⟩
      gi_wp2
      have hkl : k = L.length := by omega
      subst hkl
      refine bodyPost_ret (results_none rfl _ _ _) rfl ?_
      exact ⟨⟨_, rfl⟩, T, .inl HJ2.out⟩
end Go.Proofs.Ytokljdkeegdniaa
