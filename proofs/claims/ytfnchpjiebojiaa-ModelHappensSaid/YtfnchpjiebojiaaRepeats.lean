/-
  rostrumlaw16.ModelRepeats: the walk.
-/
import Derived.Test.YtfnchpjiebojiaaFew
import Derived.Test.YtfnchpjiebojiaaPlainM
namespace Go.Proofs.Ytfnchpjiebojiaa
open Go.RowKit

def RepP (w : World) (e : Ending) (w' : World) : Prop := e = .returned (.bool true) ∧ Ext w w'

set_option maxRecDepth 100000 in
set_option maxHeartbeats 1600000 in
theorem repeats_at (w : World) (n a : Int) (v : Value) (l : List Hp) (hl : HpL w v l) :
    Calls Try.prog 5 #[.int .i64 n, v, .int .i64 a] w (RepP w) := by
  have HL := Lib.hid hl
  obtain ⟨A, cap, rfl, hcap, hmax⟩ := hl.val
  clear hl hcap hmax
  go_enter Try.func5, Try.ntmps5
  go_upto_region 2 with (go_at_call 9; refine (shown_at _).mono ?_; rintro e w1 ⟨rfl, hE1⟩; have H1 := Lib.hid hE1; clear hE1)
  go_upto_region 3 with (go_at_call 10; refine (few_at _ _ l (HL.out.ext H1.out)).mono ?_; rintro e w2 ⟨fv, rfl, hown, hE2, hblk⟩; obtain ⟨fA, fcap, rfl, hfc⟩ := hown.val; have HF := Lib.hid hown; have H2 := Lib.hid hE2; have HB := Lib.hid hblk; clear hown hE2 hblk hfc)
  have hL100 : (fewL l).length ≤ 100 := by unfold fewL; rw [List.length_map]; exact List.length_take_le _ _
  have HL2 := Lib.hid (HF.out.sl Hp.len)
  have HE2 := Lib.hid (H1.out.trans H2.out)
  clear HF HB HL H1 H2
  generalize fewL l = L at *
  by_cases hn : 1 ≤ n ∧ n ≤ 16
  · obtain ⟨N, rfl⟩ : ∃ N : Nat, n = N := ⟨n.toNat, by omega⟩
    obtain ⟨hn1, hn16⟩ := hn
    go_upto_region 4 with (go_at_call 13; refine (new_yes _ N (by omega) (by omega)).mono ?_; rintro e w3 ⟨b, sb, mb, rfl, hM, hE3, hb, hsb, hmb⟩; have HM := Lib.hid hM; have H3 := Lib.hid hE3; clear hM hE3)
    by_cases ha0 : a < 0
    · go_wp2
      go_ret
      exact ⟨rfl, HE2.out.trans H3.out⟩
    · obtain ⟨i, rfl⟩ : ∃ i : Nat, a = i := ⟨a.toNat, by omega⟩
      by_cases hai : i < L.length
      · obtain ⟨sb', so', he, hbl, c0, c1, c2, c3, c4⟩ := Sl.at5 (HL2.out.ext H3.out) hai
        injection he with hA1 hA2 hA3
        subst hA1
        clear hA2 hA3 c1 c2 c3 c4
        by_cases hk3 : L[i].k = 3
        · have hk3' : (L[i].k != 3) = false := by simp [hk3]
          have HK3 := Lib.hid hk3
          clear hk3
          have hlw3 : HpL w3 (.slice (some ⟨sb', so', none⟩) L.length fcap) L := HL2.out.ext H3.out
          have Hl3 := Lib.hid hlw3
          have Hb := Lib.hid hb
          have Hsb := Lib.hid hsb
          have Hmb := Lib.hid hmb
          clear hlw3 hb hsb hmb
          go_wp2
          go_loopw [10] (fun q wr => ∃ (k : Nat) (lv : Value), k ≤ L.length ∧ q = .int .i64 k ∧ Hid (ModelAt wr b sb mb lv (stN (st0 N) L k)) ∧ Hid (Ext w2 wr) ∧ Hid (∀ y, lv.ownBlock = some y → w2.heap.size ≤ y) ∧ Hid (i < k → hapB (stN (st0 N) L i) L[i] = true)) (fun q _ => L.length - (intOf q).toNat)
          case atStart => exact ⟨0, _, Nat.zero_le _, rfl, Lib.hid (by rw [stN_zero]; exact HM.out), H3, Lib.hid (fun y hy => by simp [Value.ownBlock] at hy), Lib.hid (fun h => by omega)⟩
          case round =>
            obtain ⟨k, lv, hk, rfl, hM, hE, hlv, hgo⟩ := hrel
            by_cases hlt : k < L.length
            · obtain ⟨sb2, so2, he, hbl2, d0, d1, d2, d3, d4⟩ := Sl.at5 (HL2.out.ext hE.out) hlt
              injection he with e1 _ _
              injection e1 with e1
              injection e1 with e1 e2
              subst e1; subst e2
              have hst := stN_succ (st0 N) L hlt
              have hsig := stN_ok (st0_ok (n := N) (by omega) (by omega)) L k
              have Hlk : Hid (L[k] = L[k]) := Lib.hid rfl
              obtain ⟨h, hh⟩ : ∃ h, L[k] = h := ⟨_, rfl⟩
              rw [hh] at d0 d1 d2 d3 d4 hst
              have Hh := Lib.hid hh
              have Hst := Lib.hid hst
              have Hsig := Lib.hid hsig
              clear hh hst hsig Hlk
              obtain ⟨σ, hσ⟩ : ∃ σ, stN (st0 N) L k = σ := ⟨_, rfl⟩
              rw [hσ] at hM Hst Hsig
              have Hσ := Lib.hid hσ
              clear hσ
              obtain ⟨r, hr⟩ : ∃ r, hapB σ h = r := ⟨_, rfl⟩
              have Hr := Lib.hid hr
              obtain ⟨c, hc⟩ : ∃ c : Int, (if r = true then 0 else 160) = c := ⟨_, rfl⟩
              have Hc := Lib.hid hc
              clear hr hc
              go_upto_region 9 with fail
              refine wp_region_line [(0,0),(1,0),(2,0),(3,0),(4,1),(5,3),(6,0)] (by kernel_rfl) (by kernel_rfl) (Ext wr) (fun _ _ h k => h.trans k) (Ext.refl _) ?_
              iterate 4
                first
                  | refine Fx.skip rfl rfl (by simp only [List.set_cons_zero, List.set_cons_succ]; rfl) ?_
                  | (with_reducible refine Fx.lab0 ?_
                     first
                       | refine Fx.moveT rfl rfl rfl (by simp only [List.set_cons_zero, List.set_cons_succ]; rfl) ?_
                       | refine Fx.assignT rfl rfl rfl (by simp only [List.set_cons_zero, List.set_cons_succ]; rfl) ?_
                       | refine Fx.pure_ rfl rfl (fun _ => by go_simp; first | done | rfl) (by simp only [List.set_cons_zero, List.set_cons_succ]; rfl) ?_)
                  | (with_reducible refine Fx.lab1 ?_
                     refine Fx.look rfl rfl (fun w' hC => by obtain ⟨hc, hf, hl⟩ := Ext.cells hC; go_simp; rfl) (by simp only [List.set_cons_zero, List.set_cons_succ]; rfl) ?_)
              refine Fx.look rfl rfl (op_load_Hp' (h := h) hbl2 d0 d1 d2 d3 d4 rfl) (by simp only [List.set_cons_zero, List.set_cons_succ]; rfl) ?_
              refine Fx.callV (.int .i64 c) (fun w' => ∃ lv', ModelAt w' b sb mb lv' (hapT σ h) ∧ Mods (FM b sb mb lv) wr w' ∧ ∀ y, lv'.ownBlock = some y → lv.ownBlock = some y ∨ wr.heap.size ≤ y) (fun _ _ h k => let ⟨lv', h1, h2, h3⟩ := h; ⟨lv', h1.ext k, h2.then_ k, h3⟩)
                (args := #[.pointer (some ⟨b, 0, none⟩), h.val]) rfl rfl (fun _ => by first | (go_simp; done) | (go_simp; rfl)) (fun w' hC => (happen_at b sb mb lv σ h w' (hM.out.ext hC) Hsig.out.1 (by have := Hsig.out.2.1; simp [st0] at this; omega)).mono (fun e w'' hh => ?_)) (by simp only [List.set_cons_zero, List.set_cons_succ]; rfl) ?_
              · obtain ⟨h1, lv', h2, h3, h4⟩ := hh
                rw [Hr.out, Hc.out] at h1
                exact ⟨h1, lv', h2, h3.after hC, fun y hy => (h4 y hy).imp id (fun h => Nat.le_trans hC.size h)⟩
              first
                | refine Fx.skip rfl rfl (by simp only [List.set_cons_zero, List.set_cons_succ]; rfl) ?_
                | (with_reducible refine Fx.lab0 ?_
                   first
                     | refine Fx.moveT rfl rfl rfl (by simp only [List.set_cons_zero, List.set_cons_succ]; rfl) ?_
                     | refine Fx.assignT rfl rfl rfl (by simp only [List.set_cons_zero, List.set_cons_succ]; rfl) ?_
                     | refine Fx.pure_ rfl rfl (fun _ => by go_simp; first | done | rfl) (by simp only [List.set_cons_zero, List.set_cons_succ]; rfl) ?_)
                | (with_reducible refine Fx.lab1 ?_
                   refine Fx.look rfl rfl (fun w' hC => by obtain ⟨hc, hf, hl⟩ := Ext.cells hC; go_simp; rfl) (by simp only [List.set_cons_zero, List.set_cons_succ]; rfl) ?_)
              refine Fx.done (fun w4 hC => ?_)
              obtain ⟨lv', g1, g2, g3⟩ := hC
              have hE4 : Ext w2 w4 := ((hE.out.mods (FM b sb mb lv)).trans g2 (fun _ _ h => h)).ext_of (fun x hx hF => by
                rcases hF with h | h | h | h
                · have := Hb.out; have := H3.out.size; omega
                · have := Hsb.out; omega
                · have := Hmb.out; omega
                · have := hlv.out x h; omega)
              have G1 := Lib.hid g1
              have HE4 := Lib.hid hE4
              have Glv : Hid (∀ y, lv'.ownBlock = some y → w2.heap.size ≤ y) := Lib.hid (fun y hy => (g3 y hy).elim (hlv.out y) (fun h => Nat.le_trans hE.out.size h))
              have hwk : IntKind.i64.wrap ((k : Int) + 1) = (k : Int) + 1 := IntWalk.i64_in _ ⟨by omega, by omega⟩
              clear g1 g2 g3 hE4 d0 d1 d2 d3 d4 hbl2 c0 hbl
              by_cases hki : k = i
              · have hkb : ((k : Int) == (i : Int)) = true := by simp [hki]
                cases r
                · have hcv : c = 160 := Hc.out.symm
                  subst hcv
                  have Hki := Lib.hid hki
                  clear hki
                  go_wp2
                  go_ret
                  exact ⟨rfl, HE2.out.trans HE4.out⟩
                · have hcv : c = 0 := Hc.out.symm
                  subst hcv
                  have Hki := Lib.hid hki
                  clear hki
                  go_wp2
                  go_roundw
                  case rel => exact ⟨k + 1, lv', by omega, by go_num, Lib.hid (by rw [Hst.out]; exact G1.out), HE4, Glv, Lib.hid (fun _ => by
                    have e := Hki.out
                    subst e
                    rw [Hσ.out, Hh.out]; exact Hr.out)⟩
                  case measure => simp [intOf]; omega
              · have hkb : ((k : Int) == (i : Int)) = false := by simp; omega
                have Hki := Lib.hid hki
                clear hki
                go_wp2
                go_roundw
                case rel => exact ⟨k + 1, lv', by omega, by go_num, Lib.hid (by rw [Hst.out]; exact G1.out), HE4, Glv, Lib.hid (fun h => hgo.out (by have := Hki.out; omega))⟩
                case measure => simp [intOf]; omega
            · have hkl : k = L.length := by omega
              subst hkl
              have hoki := hgo.out hai
              have hsig := stN_ok (st0_ok (n := N) (by omega) (by omega)) L L.length
              have hfin := repeats_plain N (by omega) (by omega) L i hai HK3.out hoki
              obtain ⟨sb2, so2, he, hbl2, d0, d1, d2, d3, d4⟩ := Sl.at5 (HL2.out.ext hE.out) hai
              injection he with e1 _ _
              injection e1 with e1
              injection e1 with e1 e2
              subst e1; subst e2
              obtain ⟨h, hh⟩ : ∃ h, L[i] = h := ⟨_, rfl⟩
              rw [hh] at d0 d1 d2 d3 d4 hfin
              obtain ⟨σ, hσ⟩ : ∃ σ, stN (st0 N) L L.length = σ := ⟨_, rfl⟩
              rw [hσ] at hM hsig hfin
              have Hsig := Lib.hid hsig
              have Hfin := Lib.hid hfin
              have Hσ := Lib.hid hσ
              have Hh := Lib.hid hh
              clear hoki hsig hfin hσ hh c0 hbl
              go_upto_region 12 with fail
              refine wp_region_line [(0,0),(1,0),(2,0),(3,0),(4,0),(5,0),(6,1),(7,3),(8,0),(9,0),(10,0)] (by kernel_rfl) (by kernel_rfl) (Ext wr) (fun _ _ h k => h.trans k) (Ext.refl _) ?_
              iterate 6
                first
                  | refine Fx.skip rfl rfl (by simp only [List.set_cons_zero, List.set_cons_succ]; rfl) ?_
                  | (with_reducible refine Fx.lab0 ?_
                     first
                       | refine Fx.moveT rfl rfl rfl (by simp only [List.set_cons_zero, List.set_cons_succ]; rfl) ?_
                       | refine Fx.assignT rfl rfl rfl (by simp only [List.set_cons_zero, List.set_cons_succ]; rfl) ?_
                       | refine Fx.pure_ rfl rfl (fun _ => by go_simp; first | done | rfl) (by simp only [List.set_cons_zero, List.set_cons_succ]; rfl) ?_)
                  | (with_reducible refine Fx.lab1 ?_
                     refine Fx.look rfl rfl (fun w' hC => by obtain ⟨hc, hf, hl⟩ := Ext.cells hC; go_simp; rfl) (by simp only [List.set_cons_zero, List.set_cons_succ]; rfl) ?_)
              refine Fx.look rfl rfl (op_load_Hp' (h := h) hbl2 d0 d1 d2 d3 d4 rfl) (by simp only [List.set_cons_zero, List.set_cons_succ]; rfl) ?_
              refine Fx.callV (.int .i64 160) (fun w' => ∃ lv', ModelAt w' b sb mb lv' (hapT σ h) ∧ Mods (FM b sb mb lv) wr w' ∧ ∀ y, lv'.ownBlock = some y → lv.ownBlock = some y ∨ wr.heap.size ≤ y) (fun _ _ h k => let ⟨lv', h1, h2, h3⟩ := h; ⟨lv', h1.ext k, h2.then_ k, h3⟩)
                (args := #[.pointer (some ⟨b, 0, none⟩), h.val]) rfl rfl (fun _ => by first | (go_simp; done) | (go_simp; rfl)) (fun w' hC => (happen_at b sb mb lv σ h w' (hM.out.ext hC) Hsig.out.1 (by have := Hsig.out.2.1; simp [st0] at this; omega)).mono (fun e w'' hh => ?_)) (by simp only [List.set_cons_zero, List.set_cons_succ]; rfl) ?_
              · obtain ⟨h1, lv', h2, h3, h4⟩ := hh
                rw [Hfin.out] at h1
                exact ⟨h1, lv', h2, h3.after hC, fun y hy => (h4 y hy).imp id (fun h => Nat.le_trans hC.size h)⟩
              iterate 3
                first
                  | refine Fx.skip rfl rfl (by simp only [List.set_cons_zero, List.set_cons_succ]; rfl) ?_
                  | (with_reducible refine Fx.lab0 ?_
                     first
                       | refine Fx.moveT rfl rfl rfl (by simp only [List.set_cons_zero, List.set_cons_succ]; rfl) ?_
                       | refine Fx.assignT rfl rfl rfl (by simp only [List.set_cons_zero, List.set_cons_succ]; rfl) ?_
                       | refine Fx.pure_ rfl rfl (fun _ => by go_simp; first | done | rfl) (by simp only [List.set_cons_zero, List.set_cons_succ]; rfl) ?_)
                  | (with_reducible refine Fx.lab1 ?_
                     refine Fx.look rfl rfl (fun w' hC => by obtain ⟨hc, hf, hl⟩ := Ext.cells hC; go_simp; rfl) (by simp only [List.set_cons_zero, List.set_cons_succ]; rfl) ?_)
              refine Fx.done (fun w4 hC => ?_)
              obtain ⟨lv', g1, g2, g3⟩ := hC
              have hE4 : Ext w2 w4 := ((hE.out.mods (FM b sb mb lv)).trans g2 (fun _ _ h => h)).ext_of (fun x hx hF => by
                rcases hF with h | h | h | h
                · have := Hb.out; have := H3.out.size; omega
                · have := Hsb.out; omega
                · have := Hmb.out; omega
                · have := hlv.out x h; omega)
              have HE4 := Lib.hid hE4
              clear g1 g2 g3 hE4 d0 d1 d2 d3 d4 hbl2
              go_wp2
              go_ret
              exact ⟨rfl, HE2.out.trans HE4.out⟩
        · have hk3' : (L[i].k != 3) = true := by simp [hk3]
          clear hk3
          go_wp2
          go_ret
          exact ⟨rfl, HE2.out.trans H3.out⟩
      · go_wp2
        go_ret
        exact ⟨rfl, HE2.out.trans H3.out⟩
  · have Hn := Lib.hid hn
    clear hn
    go_wp2_with (go_at_call 13; refine (new_no _ n Hn.out).mono ?_; rintro e w3 ⟨rfl, rfl⟩)
    go_ret
    exact ⟨rfl, HE2.out⟩
end Go.Proofs.Ytfnchpjiebojiaa
