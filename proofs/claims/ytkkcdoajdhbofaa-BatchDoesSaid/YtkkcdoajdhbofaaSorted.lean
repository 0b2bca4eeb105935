/-
  batch.Pool: sorted, and the iterator that it yields.
-/
import Derived.Test.YtkkcdoajdhbofaaCmpP
import Derived.Test.YtkkcdoajdhbofaaMapRange
import Derived.Test.YtkkcdoajdhbofaaRange2
import Derived.Test.YtkkcdoajdhbofaaPool
import Derived.Sort.CutIn
import Derived.LoopIn
import Derived.LoopNIn
import Derived.TacticsInMore
namespace Go.Proofs.Ytkkcdoajdhbofaa
open Go.RowKit Go.Sort
attribute [local go_sem] Oper.semAt_some

theorem callFunc_at (f : FuncId) (hf : Try.prog.funcs[f]?.map (fun x => x.body.isSome && !(x.name == "runtime.NumGoroutine")) = some true) (args : Array Value) (w : World) : (callFunc f args).run Try.prog w = .ok (.enter f args) w := by
  cases hp : Try.prog.funcs[f]? with
  | none => rw [hp] at hf; cases hf
  | some fn =>
    rw [hp] at hf
    simp only [Option.map_some, Option.some.injEq, Bool.and_eq_true, Bool.not_eq_true'] at hf
    obtain ⟨c, hc⟩ := Option.isSome_iff_exists.1 hf.1
    exact Go.Proofs.enters_of hp hf.2 hc args w

def lenV : Value → Nat | .slice _ n _ => n | _ => 0
def SortedR (b : Nat) (w : World) (e : Ending) (w' : World) : Prop :=
  ∃ Bb, e = .returned (.func (.func 33) #[] #[.pointer (some ⟨Bb, 0, none⟩)]) ∧ Ext w w' ∧ w.heap.size ≤ Bb ∧ Obj_ w' Bb 1 (fun _ => .pointer (some ⟨b, 0, none⟩))
theorem sorted_at (w : World) (b : Nat) : Calls Try.prog 30 #[.pointer (some ⟨b, 0, none⟩)] w (SortedR b w) := by
  have o1 := Obj_.new w 27 #[.pointer (some ⟨b, 0, none⟩)] (fun _ => .pointer (some ⟨b, 0, none⟩)) (by intro i hi; simp at hi; subst hi; rfl)
  have E1 := Ext.alloc w (.cells #[.pointer (some ⟨b, 0, none⟩)] 27)
  have O1 := Lib.hid o1
  have H1 := Lib.hid E1
  clear o1 E1
  go_enter Try.func30, Try.ntmps30
  go_wp2
  go_ret
  exact ⟨w.heap.size, rfl, H1.out, Nat.le_refl _, O1.out⟩

set_option maxRecDepth 100000 in
set_option maxHeartbeats 3200000 in
theorem sorted_iter {F : Fence} (hF : WideF F) (hro : F.round = none) (n : Nat) (I : Nat → World → Prop) (b mw md : Nat) (σ : PSt) (hO : σ.Ok) (Bb : Nat) (W : World) (hb : W.cell? ⟨Bb, 0, none⟩ = some (.pointer (some ⟨b, 0, none⟩))) (hP : PoolAt W b mw md σ) :
    IterT F n Try.prog 33 #[.pointer (some ⟨Bb, 0, none⟩)] (fun k => #[((pend σ).getD k ms0).val]) (pend σ).length I W := by
  intro q J Jx T0 hJ hJx hJI hY h0 hT0
  have HY := Lib.hid hY
  have HJ := Lib.hid hJ
  have H0 := Lib.hid h0
  have HT0 := Lib.hid hT0
  obtain ⟨w0, hrg, hR0, hE0⟩ := RgIs.begin (P := Try.prog) hP.wt Try.underlying56
  obtain ⟨c0, c1, lb⟩ := hP.cells
  have HR0 := Lib.hid hR0
  have HE0 := Lib.hid hE0
  have hmw := hP.wt.lt
  have HNd := Lib.hid hO.nodup
  have hlen := hO.len
  have hpl := pend_len σ
  have HPd : Hid (∀ L : List Ms, L.Perm (valsP σ) → Rise L → pend σ = L) := Lib.hid (fun L h1 h2 => srtL_eq h1 h2 hO.nodup)
  unfold valsP at HNd HPd
  obtain ⟨kv, hkv⟩ : ∃ kv, σ.wt = kv := ⟨_, rfl⟩
  rw [hkv] at HR0 hlen HNd HPd hpl
  have HLn := Lib.hid hlen
  have HPl := Lib.hid hpl
  generalize pend σ = PL at *
  generalize hr0 : W.heap.size = r0 at *
  have HMl := Lib.hid hmw
  clear hY hJ hJI h0 hT0 hJx hO hP hR0 hE0 hlen hkv hmw c1 hpl
  refine callsIn_of_wp Try.func33 rfl (hF.fn _) ?_ hro
  simp only [Try.ntmps33, List.size_toArray, List.length_cons, List.length_nil, Nat.reduceAdd, Nat.reduceSub, Array.replicate_succ, Array.replicate_zero, List.push_toArray, List.append_toArray, List.nil_append, List.cons_append]
  gi_wp2
  clear hrg c0 lb hb
  gi_loopw [3] (fun v3 wr => ∃ (v : Value) (got rest : List ((Int × Int) × Ms)), v = v3 ∧ Hid (OwnPd wr v (got.map (·.2))) ∧ Hid (RgIs wr r0 mw idV Ms.val kv rest) ∧ Hid ((got ++ rest).Perm kv) ∧ Hid (Ext W wr) ∧ Hid (∀ c, v.ownBlock = some c → r0 < c)) (fun v3 _ => kv.length - lenV v3)
  case atStart => exact ⟨_, [], kv, rfl, Lib.hid (by simpa using Own.nil), HR0, Lib.hid (by simp), HE0, Lib.hid (fun c hc => by simp [Value.ownBlock] at hc)⟩
  case round =>
    obtain ⟨v, got, rest, rfl, hO, hR, hP, hE, hFr⟩ := hrel
    rcases hR.out.next (P := Try.prog) 0 with ⟨hnil, hrun⟩ | ⟨p, rest', w1, hpm, hperm, hrun, hR1, hM1, hen⟩
    · subst hnil
      have hP' := hP.out
      rw [List.append_nil] at hP'
      have HP := Lib.hid (hP'.map (·.2))
      have hl := hP'.length_eq
      have HL := Lib.hid (show (got.map (·.2)).length ≤ 1000000000 by have := HLn.out; rw [List.length_map]; omega)
      clear hP' hl
      have eg : ∀ args w, (callFunc 35 args).run Try.prog w = .ok (.enter 35 args) w := fun args w => callFunc_at _ (by kernel_rfl) args w
      have HEg := Lib.hid eg
      clear eg
      gi_upto_region 6 with (refine ⟨hF.fn _, (fun hs => by (rw [hF.depth] at hs; cases hs)), ?_⟩; refine (hF.calls (sort_at (sortIt) 3 (by decide) (fun w => by first | (go_simp; done) | (go_simp; rfl)) (fun w => by first | (go_simp; done) | (go_simp; rfl)) Ms.enc Ms.len Ms.one cmpM swoM 35 HEg.out cmp_at hO.out HL.out)).mono ?_; rintro e w2 ⟨rfl, L, hL1, hL2, hL3, hL4⟩; have HL1 := Lib.hid hL1; have HL2 := Lib.hid hL2; have HL3 := Lib.hid hL3; have HL4 := Lib.hid hL4; clear hL1 hL2 hL3 hL4)
      have HPLe := Lib.hid (HPd.out L (HL1.out.trans HP.out) (rise_of (((HL1.out.trans HP.out).map keyM).nodup_iff.2 HNd.out) HL2.out))
      have HE2 : Hid (Ext W w2) := Lib.hid (((hE.out.mods _).trans HL4.out (fun _ _ h => h)).ext_of (fun x hx hs => by have := hFr.out x hs; omega))
      have HB2 : Hid (∀ c, v.ownBlock = some c → W.heap.size ≤ c ∧ c < w2.heap.size) := Lib.hid (fun c hc => by
        have h1 := hFr.out c hc
        have h2 := hO.out.lt hc
        have h3 := HL4.out.size
        omega)
      have HJ2 := Lib.hid (HJ.out 0 T0 W w2 (fun _ => False) H0.out (HE2.out.mods _) (fun _ h => h.elim))
      have HS3 := HL3
      obtain ⟨vA, vcap, rfl, hvc, hvm⟩ := HL3.out.val
      have hLm : L.length ≤ 1000000000 := by have := HL1.out.length_eq; have := HL.out; omega
      have HPLl : PL.length = L.length := by rw [HPLe.out]
      have HPLl2 := Lib.hid HPLl
      clear HPLl hvc hvm hO hP hR hE hFr HL4 hrun
      gi_wp2
      gi_loopw [25] (fun i wr => ∃ (k : Nat) (T : Nat → Prop), k ≤ L.length ∧ i = .int .i64 k ∧ Hid (J k T wr) ∧ Hid (MsL wr (.slice vA L.length vcap) L) ∧ Hid (∀ c, Value.ownBlock (.slice vA L.length vcap) = some c → W.heap.size ≤ c ∧ c < wr.heap.size ∧ ¬ T c) ∧ Hid (∀ x, T x → x < wr.heap.size)) (fun i _ => L.length - (intOf i).toNat)
      case atStart => exact ⟨0, T0, Nat.zero_le _, rfl, HJ2, HS3, Lib.hid (fun c hc => by
        have h1 := HB2.out c hc
        exact ⟨h1.1, h1.2, fun h => by have := HT0.out c h; omega⟩), Lib.hid (fun x hx => by have := HT0.out x hx; have := HE2.out.size; omega)⟩
      case round =>
        obtain ⟨k, T, hk, rfl, hJk, hS, hB, hTl⟩ := hrel
        by_cases hlt : k < L.length
        · obtain ⟨jb, joff, rfl, hjbl, j0, j1, j2⟩ := Sl.at3 hS.out hlt
          have hgd : PL.getD k ms0 = L[k] := by rw [HPLe.out, List.getD_eq_getElem?_getD, List.getElem?_eq_getElem hlt]; rfl
          obtain ⟨m, hm⟩ : ∃ m, L[k] = m := ⟨_, rfl⟩
          rw [hm] at j0 j1 j2 hgd
          have Hgd := Lib.hid hgd
          have hwk : IntKind.i64.wrap ((k : Int) + 1) = (k : Int) + 1 := IntWalk.i64_in _ ⟨by omega, by omega⟩
          clear hgd hm
          gi_upto_region 8 with fail
          refine wpIn_region_line hF [(0,0),(1,1),(2,2),(3,3)] (by kernel_rfl) (by kernel_rfl) (Ext wr) (fun _ _ h k => h.trans k) (Ext.refl _) ?_
          first
            | refine Fx.skip rfl rfl (by simp only [List.set_cons_zero, List.set_cons_succ]; rfl) ?_
            | (with_reducible refine Fx.lab0 ?_
               first
                 | refine Fx.moveT rfl rfl rfl (by simp only [List.set_cons_zero, List.set_cons_succ]; rfl) ?_
                 | refine Fx.assignT rfl rfl rfl (by simp only [List.set_cons_zero, List.set_cons_succ]; rfl) ?_
                 | refine Fx.pure_ rfl rfl (fun _ => by go_simp; first | done | rfl) (by simp only [List.set_cons_zero, List.set_cons_succ]; rfl) ?_)
            | (with_reducible refine Fx.lab1 ?_
               refine Fx.look rfl rfl (fun w' hC => by obtain ⟨hc, hf, hl⟩ := Ext.cells hC; go_simp; rfl) (by simp only [List.set_cons_zero, List.set_cons_succ]; rfl) ?_)
          refine Fx.look rfl rfl (op_load_Pd' (m := m) hjbl j0 j1 j2 rfl) (by simp only [List.set_cons_zero, List.set_cons_succ]; rfl) ?_
          refine Fx.mkPtr (fun B w' => wr.heap.size ≤ B ∧ Obj_ w' B 3 (msF ms0)) (fun B _ _ h k => ⟨h.1, h.2.ext k⟩) rfl rfl (fun w' hC => stepAt_alloc_Pd hC) (fun B => ?_)
          simp only [List.set_cons_zero, List.set_cons_succ]
          refine Fx.eff0 (MsPre wr B m) (msPre_stable _ _ _) rfl rfl (fun w' hC => stepAt_mono (stepAt_store_Pd hC.1 hC.2.1 hC.2.2 m rfl rfl) (fun _ w'' h => ⟨h.1, hC.2.1, h.2⟩)) ?_
          refine Fx.done (fun w3 hC => ?_)
          obtain ⟨hC1, -, hOb⟩ := hC
          have HE3 := Lib.hid hC1
          obtain ⟨d0, d1, d2⟩ := hOb.ms
          have dl := hOb.lt
          have hJ3 := HJ.out k T wr w3 (fun _ => False) hJk.out (hC1.mods _) (fun _ h => h.elim)
          obtain ⟨fn, tmps, assign, body, hyv, hR⟩ := HY.out k T w3 (by rw [HPLl2.out]; exact hlt) hJ3
          rw [Hgd.out] at hyv
          unfold Ms.val at hyv
          clear hC1 hOb hJ3 j0 j1 j2 hjbl
          gi_wp2
          refine ⟨(fun hs => by (rw [hF.depth] at hs; cases hs)), hR.mono ?_⟩
          rintro e W' ⟨T', hMd, hTs, hTl', (⟨rfl, hJ'⟩ | ⟨rfl, hJ'⟩)⟩
          · have H' := Lib.hid hJ'
            have HS' := Lib.hid ((hS.out.ext HE3.out).mods hMd (fun c hc => (hB.out c hc).2.2))
            have HB' : Hid (∀ c, Value.ownBlock (.slice (some ⟨jb, joff, none⟩) L.length vcap) = some c → W.heap.size ≤ c ∧ c < W'.heap.size ∧ ¬ T' c) := Lib.hid (fun c hc => by
              have h1 := hB.out c hc
              have h2 := HE3.out.size
              have h3 := hMd.size
              exact ⟨h1.1, by omega, fun h => (hTs c h).elim h1.2.2 (fun h => by omega)⟩)
            have HTl' := Lib.hid hTl'
            clear hMd hTs hTl' hJ' hR hyv d0 d1 d2 dl
            gi_wp2
            go_roundw
            case rel => exact ⟨k + 1, T', by omega, by go_num, H', HS', HB', HTl'⟩
            case measure => simp [intOf]; omega
          · have H' := Lib.hid hJ'
            clear hJ' hR hyv d0 d1 d2 dl
            gi_wp2
            refine bodyPost_ret (results_none rfl _ _ _) rfl ?_
            exact ⟨⟨_, rfl⟩, T', .inr ⟨k + 1, by rw [HPLl2.out]; omega, H'.out⟩⟩
        · gi_wp2
          go_end0
          have hkl : k = PL.length := by rw [HPLl2.out]; omega
          subst hkl
          exact ⟨⟨_, rfl⟩, T, .inl hJk.out⟩
    · obtain ⟨⟨kf, kc⟩, m⟩ := p
      have hn : (got.map (·.2)).length + 1 ≤ 1000001 := by
        have h1 := hP.out.length_eq
        have h2 := hperm.length_eq
        have := HLn.out
        simp at h1 h2 ⊢; omega
      have HN := Lib.hid hn
      have HR1 := Lib.hid hR1
      have hlen2 : got.length + 1 ≤ kv.length := by
        have h1 := hP.out.length_eq
        have h2 := hperm.length_eq
        simp at h1 h2; omega
      have HPerm : Hid (((got ++ [((kf, kc), m)]) ++ rest').Perm kv) := Lib.hid (by
        simpa using ((hperm.symm.append_left got).trans hP.out))
      have HM1 := Lib.hid hM1
      have HEn := Lib.hid hen
      have HO1 := Lib.hid (hO.out.mods hM1 (fun b hb h => by have := hFr.out b hb; omega))
      have hE1 : Ext W w1 := ((hE.out.mods _).trans hM1 (fun _ _ h => h)).ext_of (fun x hx hs => by omega)
      have HE1 := Lib.hid hE1
      have hsz := hM1.size
      have hszr := hR.out.ltr
      obtain ⟨zA, zcap, hz, -⟩ := hO.out.val
      have hlv : lenV v = got.length := by rw [hz]; simp [lenV]
      have HLv := Lib.hid hlv
      clear hn hR1 hperm hM1 hen hE1 hpm hz hlv
      unfold Ms.val idV at hrun
      gi_upto_region 3 with fail
      clear hrun
      refine wpIn_region_line hF [(0,1),(1,0),(2,2),(3,3)] (by kernel_rfl) (by kernel_rfl) (Ext w1) (fun _ _ h k => h.trans k) (Ext.refl _) ?_
      refine Fx.look rfl rfl (fun w' hC => op_entry (HEn.out w' hC) rfl) (by simp only [List.set_cons_zero, List.set_cons_succ]; rfl) ?_
      refine Fx.pure_ (v := m.val) rfl rfl (fun _ => by unfold Ms.val; first | (go_simp; done) | (go_simp; rfl)) (by simp only [List.set_cons_zero, List.set_cons_succ]; rfl) ?_
      refine Fx.mkPtr (fun B w' => w1.heap.size ≤ B ∧ Obj_ w' B 3 (msF ms0)) (fun B _ _ h k => ⟨h.1, h.2.ext k⟩) rfl rfl (fun w' hC => stepAt_alloc_Pd hC) (fun B => ?_)
      simp only [List.set_cons_zero, List.set_cons_succ]
      refine Fx.eff0 (MsPre w1 B m) (msPre_stable _ _ _) rfl rfl (fun w' hC => stepAt_mono (stepAt_store_Pd hC.1 hC.2.1 hC.2.2 m rfl rfl) (fun _ w'' h => ⟨h.1, hC.2.1, h.2⟩)) ?_
      refine Fx.done (fun w2 hC => ?_)
      obtain ⟨hC2, hB, hOb⟩ := hC
      have HO2 := Lib.hid (HO1.out.ext hC2)
      have HE2 := Lib.hid (HE1.out.trans hC2)
      have HR2 := Lib.hid (HR1.out.ext hC2)
      have hsz2 := hC2.size
      obtain ⟨d0, d1, d2⟩ := hOb.ms
      have dl := hOb.lt
      clear hC2 hB hOb
      gi_upto_region 4 with fail
      refine wpIn_region_line hF [(0,0),(1,1),(2,2),(3,3),(4,0)] (by kernel_rfl) (by kernel_rfl) (Ext w2) (fun _ _ h k => h.trans k) (Ext.refl _) ?_
      first
        | refine Fx.skip rfl rfl (by simp only [List.set_cons_zero, List.set_cons_succ]; rfl) ?_
        | (with_reducible refine Fx.lab0 ?_
           first
             | refine Fx.moveT rfl rfl rfl (by simp only [List.set_cons_zero, List.set_cons_succ]; rfl) ?_
             | refine Fx.assignT rfl rfl rfl (by simp only [List.set_cons_zero, List.set_cons_succ]; rfl) ?_
             | refine Fx.pure_ rfl rfl (fun _ => by go_simp; first | done | rfl) (by simp only [List.set_cons_zero, List.set_cons_succ]; rfl) ?_)
        | (with_reducible refine Fx.lab1 ?_
           refine Fx.look rfl rfl (fun w' hC => by obtain ⟨hc, hf, hl⟩ := Ext.cells hC; go_simp; rfl) (by simp only [List.set_cons_zero, List.set_cons_succ]; rfl) ?_)
      refine Fx.look rfl rfl (op_load_Pd' (m := m) dl d0 d1 d2 rfl) (by simp only [List.set_cons_zero, List.set_cons_succ]; rfl) ?_
      refine Fx.mkSl 1 1 (fun B w' => MsL w' (.slice (some ⟨B, 0, none⟩) 1 1) [m]) (fun B _ _ h k => h.ext k) rfl rfl (fun w' hC => stepAt_lit1P hC m rfl) (fun B2 => ?_)
      simp only [List.set_cons_zero, List.set_cons_succ]
      refine Fx.eff (fun v' w' => OwnPd w' v' (got.map (·.2) ++ [m]) ∧ Mods (fun c => v.ownBlock = some c) w2 w' ∧ (∀ c, v'.ownBlock = some c → v.ownBlock = some c ∨ w2.heap.size ≤ c)) (fun v _ _ h k => ⟨h.1.ext k, h.2.1.then_ k, h.2.2⟩) rfl rfl
        (fun w' hC => stepAt_appendP hC.1 (HO2.out.ext hC.1) hC.2 (by have := HN.out; simp at this ⊢; omega) rfl rfl) (fun lv' => ?_)
      simp only [List.set_cons_zero, List.set_cons_succ]
      first
        | refine Fx.skip rfl rfl (by simp only [List.set_cons_zero, List.set_cons_succ]; rfl) ?_
        | (with_reducible refine Fx.lab0 ?_
           first
             | refine Fx.moveT rfl rfl rfl (by simp only [List.set_cons_zero, List.set_cons_succ]; rfl) ?_
             | refine Fx.assignT rfl rfl rfl (by simp only [List.set_cons_zero, List.set_cons_succ]; rfl) ?_
             | refine Fx.pure_ rfl rfl (fun _ => by go_simp; first | done | rfl) (by simp only [List.set_cons_zero, List.set_cons_succ]; rfl) ?_)
        | (with_reducible refine Fx.lab1 ?_
           refine Fx.look rfl rfl (fun w' hC => by obtain ⟨hc, hf, hl⟩ := Ext.cells hC; go_simp; rfl) (by simp only [List.set_cons_zero, List.set_cons_succ]; rfl) ?_)
      refine Fx.done (fun w3 hC => ?_)
      obtain ⟨hA1, hA2, hA3⟩ := hC
      have HA1 := Lib.hid hA1
      have HA2 := Lib.hid hA2
      have HA3 := Lib.hid hA3
      clear hA1 hA2 hA3 d0 d1 d2
      gi_wp2
      go_roundw
      case rel =>
        refine ⟨_, got ++ [((kf, kc), m)], rest', rfl, Lib.hid (by simpa using HA1.out), Lib.hid (HR2.out.mods HA2.out (fun h => by have := hFr.out _ h; omega) (fun h => ?_)), HPerm, Lib.hid (((HE2.out.mods _).trans HA2.out (fun _ _ h => h)).ext_of (fun x hx hs => by have := hFr.out x hs; omega)), Lib.hid (fun c hc => (HA3.out c hc).elim (hFr.out c) (fun h => by omega))⟩
        have h1 := hFr.out _ h
        have h3 := HMl.out
        omega
      case measure =>
        obtain ⟨yA, ycap, hy, -⟩ := HA1.out.val
        rw [HLv.out, hy]
        simp [lenV]; omega
end Go.Proofs.Ytkkcdoajdhbofaa
