/-
  ids.Book: Waiting.
-/
import Derived.Test.YtbjondnombnpbaaCmpW
import Derived.Test.YtbjondnombnpbaaMapRange
import Derived.Test.YtbjondnombnpbaaTake
namespace Go.Proofs.Ytbjondnombnpbaa
open Go.RowKit Go.Sort
attribute [local go_sem] Oper.semAt_some

def lenV : Value → Nat | .slice _ n _ => n | _ => 0
def WaitingR (w : World) (kv : List ((Int × Int) × Ms)) (e : Ending) (w' : World) : Prop :=
  ∃ v L, e = .returned v ∧ MsL w' v L ∧ L.Perm (kv.map (·.2)) ∧ L.Pairwise (fun x y => ltOf cmpM y x = false) ∧ Ext w w'
theorem waiting_nil (w : World) : Calls Try.prog 24 #[.pointer none] w fun e w' => e = .returned (.slice none 0 0) ∧ w' = w := by
  go_enter Try.func24, Try.ntmps24
  go_wp2
  go_ret
  exact ⟨rfl, rfl⟩
set_option maxRecDepth 100000 in
set_option maxHeartbeats 1600000 in
theorem waiting_at {w : World} {b mb : Nat} {lv : Value} {σ : BSt} (hM : BookAt w b mb lv σ) (hlen : σ.wt.length ≤ 1000000) :
    Calls Try.prog 24 #[.pointer (some ⟨b, 0, none⟩)] w (WaitingR w σ.wt) := by
  obtain ⟨w0, hrg, hR0, hE0⟩ := RgIs.begin (P := Try.prog) hM.map Try.underlying50
  obtain ⟨c16, c17, cl, fb, lb, lm⟩ := hM.cells
  have HR0 := Lib.hid hR0
  have HE0 := Lib.hid hE0
  have HMl := Lib.hid lm
  clear hR0 hE0 hM c16 cl fb lm
  obtain ⟨kv, hkv⟩ : ∃ kv, σ.wt = kv := ⟨_, rfl⟩
  rw [hkv] at HR0 hlen ⊢
  clear hkv
  have HLn := Lib.hid hlen
  clear hlen
  generalize hr0 : w.heap.size = r0 at *
  go_enter Try.func24, Try.ntmps24
  go_wp2
  clear hrg c17 lb
  go_loopw [3] (fun v3 wr => ∃ (v : Value) (got rest : List ((Int × Int) × Ms)), v = v3 ∧ Hid (OwnMs wr v (got.map (·.2))) ∧ Hid (RgIs wr r0 mb idV Ms.val kv rest) ∧ Hid ((got ++ rest).Perm kv) ∧ Hid (Ext w wr) ∧ Hid (∀ c, v.ownBlock = some c → r0 < c)) (fun v3 _ => kv.length - lenV v3)
  case atStart => exact ⟨_, [], kv, rfl, Lib.hid (by simpa using Own.nil), HR0, Lib.hid (by simp), HE0, Lib.hid (fun c hc => by simp [Value.ownBlock] at hc)⟩
  case round =>
    obtain ⟨v, got, rest, rfl, hO, hR, hP, hE, hF⟩ := hrel
    rcases hR.out.next (P := Try.prog) 0 with ⟨hnil, hrun⟩ | ⟨p, rest', w1, hpm, hperm, hrun, hR1, hM1, hen⟩
    · subst hnil
      have hP' := hP.out
      rw [List.append_nil] at hP'
      have HP := Lib.hid hP'
      have hl := hP'.length_eq
      have HL := Lib.hid (show (got.map (·.2)).length ≤ 1000000000 by have := HLn.out; rw [List.length_map]; omega)
      clear hP' hl
      have eg : ∀ args w, (callFunc 36 args).run Try.prog w = .ok (.enter 36 args) w := fun args w => by first | (go_simp; done) | (go_simp; rfl)
      have HEg := Lib.hid eg
      clear eg
      go_upto_region 9 with (go_at_call 35; refine (sort_at (sortIt) 3 (by decide) (fun w => by first | (go_simp; done) | (go_simp; rfl)) (fun w => by first | (go_simp; done) | (go_simp; rfl)) Ms.enc Ms.len Ms.one cmpM swoM 36 HEg.out cmp_at hO.out HL.out).mono ?_; rintro e w2 ⟨rfl, L, hL1, hL2, hL3, hL4⟩; have HL1 := Lib.hid hL1; have HL2 := Lib.hid hL2; have HL3 := Lib.hid hL3; have HL4 := Lib.hid hL4; clear hL1 hL2 hL3 hL4)
      go_wp2
      go_ret
      refine ⟨_, L, rfl, HL3.out, HL1.out.trans (HP.out.map _), HL2.out, ?_⟩
      exact ((hE.out.mods _).trans HL4.out (fun _ _ h => h)).ext_of (fun x hx hs => by have := hF.out x hs; omega)
    · obtain ⟨⟨kf, kc⟩, m⟩ := p
      have hn : (got.map (·.2)).length + 1 ≤ 1000001 := by
        have h1 := hP.out.length_eq
        have h2 := hperm.length_eq
        have := HLn.out
        simp at h1 h2 ⊢; omega
      have HN := Lib.hid hn
      have HR1 := Lib.hid hR1
      have hlen2 : got.length + 1 ≤ kv.length := by
        have h1 := hP.out.length_eq
        have h2 := hperm.length_eq
        simp at h1 h2; omega
      have HPerm : Hid (((got ++ [((kf, kc), m)]) ++ rest').Perm kv) := Lib.hid (by
        simpa using ((hperm.symm.append_left got).trans hP.out))
      have HM1 := Lib.hid hM1
      have HEn := Lib.hid hen
      have HO1 := Lib.hid (hO.out.mods hM1 (fun b hb h => by have := hF.out b hb; omega))
      have hE1 : Ext w w1 := ((hE.out.mods _).trans hM1 (fun _ _ h => h)).ext_of (fun x hx hs => by omega)
      have HE1 := Lib.hid hE1
      have hsz := hM1.size
      have hszr := hR.out.ltr
      obtain ⟨zA, zcap, hz, -⟩ := hO.out.val
      have hlv : lenV v = got.length := by rw [hz]; simp [lenV]
      have HLv := Lib.hid hlv
      clear hn hR1 hperm hM1 hen hE1 hpm hz hlv
      unfold Ms.val idV at hrun
      go_upto_region 6 with fail
      clear hrun
      refine wp_region_line [(0,1),(1,0),(2,2),(3,3)] (by kernel_rfl) (by kernel_rfl) (Ext w1) (fun _ _ h k => h.trans k) (Ext.refl _) ?_
      refine Fx.look rfl rfl (fun w' hC => op_entry (HEn.out w' hC) rfl) (by simp only [List.set_cons_zero, List.set_cons_succ]; rfl) ?_
      refine Fx.pure_ (v := m.val) rfl rfl (fun _ => by unfold Ms.val; first | (go_simp; done) | (go_simp; rfl)) (by simp only [List.set_cons_zero, List.set_cons_succ]; rfl) ?_
      refine Fx.mkPtr (fun B w' => w1.heap.size ≤ B ∧ Obj_ w' B 3 (msF ms0)) (fun B _ _ h k => ⟨h.1, h.2.ext k⟩) rfl rfl (fun w' hC => stepAt_alloc_Ms hC) (fun B => ?_)
      simp only [List.set_cons_zero, List.set_cons_succ]
      refine Fx.eff0 (MsPre w1 B m) (msPre_stable _ _ _) rfl rfl (fun w' hC => stepAt_mono (stepAt_store_Ms hC.1 hC.2.1 hC.2.2 m rfl rfl) (fun _ w'' h => ⟨h.1, hC.2.1, h.2⟩)) ?_
      refine Fx.done (fun w2 hC => ?_)
      obtain ⟨hC2, hB, hOb⟩ := hC
      have HO2 := Lib.hid (HO1.out.ext hC2)
      have HE2 := Lib.hid (HE1.out.trans hC2)
      have HR2 := Lib.hid (HR1.out.ext hC2)
      have hsz2 := hC2.size
      obtain ⟨d0, d1, d2⟩ := hOb.ms
      have dl := hOb.lt
      clear hC2 hB hOb
      go_upto_region 7 with fail
      refine wp_region_line [(0,0),(1,1),(2,2),(3,3),(4,0)] (by kernel_rfl) (by kernel_rfl) (Ext w2) (fun _ _ h k => h.trans k) (Ext.refl _) ?_
      first
        | refine Fx.skip rfl rfl (by simp only [List.set_cons_zero, List.set_cons_succ]; rfl) ?_
        | (with_reducible refine Fx.lab0 ?_
           first
             | refine Fx.moveT rfl rfl rfl (by simp only [List.set_cons_zero, List.set_cons_succ]; rfl) ?_
             | refine Fx.assignT rfl rfl rfl (by simp only [List.set_cons_zero, List.set_cons_succ]; rfl) ?_
             | refine Fx.pure_ rfl rfl (fun _ => by go_simp; first | done | rfl) (by simp only [List.set_cons_zero, List.set_cons_succ]; rfl) ?_)
        | (with_reducible refine Fx.lab1 ?_
           refine Fx.look rfl rfl (fun w' hC => by obtain ⟨hc, hf, hl⟩ := Ext.cells hC; go_simp; rfl) (by simp only [List.set_cons_zero, List.set_cons_succ]; rfl) ?_)
      refine Fx.look rfl rfl (op_load_Ms' (m := m) dl d0 d1 d2 rfl) (by simp only [List.set_cons_zero, List.set_cons_succ]; rfl) ?_
      refine Fx.mkSl 1 1 (fun B w' => MsL w' (.slice (some ⟨B, 0, none⟩) 1 1) [m]) (fun B _ _ h k => h.ext k) rfl rfl (fun w' hC => stepAt_lit1 hC m rfl) (fun B2 => ?_)
      simp only [List.set_cons_zero, List.set_cons_succ]
      refine Fx.eff (fun v' w' => OwnMs w' v' (got.map (·.2) ++ [m]) ∧ Mods (fun c => v.ownBlock = some c) w2 w' ∧ (∀ c, v'.ownBlock = some c → v.ownBlock = some c ∨ w2.heap.size ≤ c)) (fun v _ _ h k => ⟨h.1.ext k, h.2.1.then_ k, h.2.2⟩) rfl rfl
        (fun w' hC => stepAt_append hC.1 (HO2.out.ext hC.1) hC.2 (by have := HN.out; simp at this ⊢; omega) rfl rfl) (fun lv' => ?_)
      simp only [List.set_cons_zero, List.set_cons_succ]
      first
        | refine Fx.skip rfl rfl (by simp only [List.set_cons_zero, List.set_cons_succ]; rfl) ?_
        | (with_reducible refine Fx.lab0 ?_
           first
             | refine Fx.moveT rfl rfl rfl (by simp only [List.set_cons_zero, List.set_cons_succ]; rfl) ?_
             | refine Fx.assignT rfl rfl rfl (by simp only [List.set_cons_zero, List.set_cons_succ]; rfl) ?_
             | refine Fx.pure_ rfl rfl (fun _ => by go_simp; first | done | rfl) (by simp only [List.set_cons_zero, List.set_cons_succ]; rfl) ?_)
        | (with_reducible refine Fx.lab1 ?_
           refine Fx.look rfl rfl (fun w' hC => by obtain ⟨hc, hf, hl⟩ := Ext.cells hC; go_simp; rfl) (by simp only [List.set_cons_zero, List.set_cons_succ]; rfl) ?_)
      refine Fx.done (fun w3 hC => ?_)
      obtain ⟨hA1, hA2, hA3⟩ := hC
      have HA1 := Lib.hid hA1
      have HA2 := Lib.hid hA2
      have HA3 := Lib.hid hA3
      clear hA1 hA2 hA3 d0 d1 d2
      go_wp2
      go_roundw
      case rel =>
        refine ⟨_, got ++ [((kf, kc), m)], rest', rfl, Lib.hid (by simpa using HA1.out), Lib.hid (HR2.out.mods HA2.out (fun h => by have := hF.out _ h; omega) (fun h => ?_)), HPerm, Lib.hid (((HE2.out.mods _).trans HA2.out (fun _ _ h => h)).ext_of (fun x hx hs => by have := hF.out x hs; omega)), Lib.hid (fun c hc => (HA3.out c hc).elim (hF.out c) (fun h => by omega))⟩
        have h1 := hF.out _ h
        have h3 := HMl.out
        omega
      case measure =>
        obtain ⟨yA, ycap, hy, -⟩ := HA1.out.val
        rw [HLv.out, hy]
        simp [lenV]; omega
end Go.Proofs.Ytbjondnombnpbaa
