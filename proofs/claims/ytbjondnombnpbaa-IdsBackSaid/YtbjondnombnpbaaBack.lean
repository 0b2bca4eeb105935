/-
  rostrumlaw10.IdsBack: what it computes.
-/
import Derived.Test.YtbjondnombnpbaaUnpacks
namespace Go.Proofs.Ytbjondnombnpbaa
open Go.RowKit
attribute [local go_sem] Oper.semAt_some

set_option maxRecDepth 100000 in
set_option maxHeartbeats 6400000 in
theorem back_law (w : World) (v : Value) (l : List Ms) (s : ByteArray) (hl : MsL w v l) : Calls Try.prog 6 #[v, .string s] w (LawP w) := by
  have HL := Lib.hid hl
  obtain ⟨A, cap, rfl, hcap, hmax⟩ := hl.val
  obtain ⟨mn, hmn⟩ : ∃ mn, min s.size 10000 = mn := ⟨_, rfl⟩
  have hmi : min (s.size : Int) 10000 = (mn : Int) := by omega
  have hms : mn ≤ s.size := by omega
  have hmsI : (mn : Int) ≤ s.size := by omega
  have htz : (s.extract 0 mn).size ≤ 100000 := by rw [ByteArray.size_extract]; omega
  have Htz := Lib.hid htz
  clear hl hcap hmax hmn htz
  go_enter Try.func6, Try.ntmps6
  go_upto_region 2 with (go_at_call 10; refine (shown_at _).mono ?_; rintro e w1 ⟨rfl, hE1⟩; have H1 := Lib.hid hE1; clear hE1)
  go_upto_region 3 with (go_at_call 11; refine (cut_at _ _ l (HL.out.ext H1.out)).mono ?_; rintro e w2 ⟨fv, rfl, hown, hE2, hblk⟩; obtain ⟨fA, fcap, rfl, hfc⟩ := hown.val; have HF := Lib.hid hown; have H2 := Lib.hid hE2; clear hown hE2 hblk hfc)
  have hL80 : (cutL l).length ≤ 80 := cutL_len l
  have HL2 := Lib.hid (HF.out.sl Ms.len)
  have HE2 := Lib.hid (H1.out.trans H2.out)
  clear HF HL H1 H2
  generalize cutL l = L at *
  go_upto_region 4 with fail
  generalize s.extract 0 mn = t at *
  clear hmi hms hmsI
  obtain ⟨S, hS⟩ : ∃ S, packS L = S := ⟨_, rfl⟩
  obtain ⟨x, hx⟩ : ∃ x, packE L = x := ⟨_, rfl⟩
  have hSz := packS_size L
  have hup : x = 0 → unp S = some L := fun h => by rw [← hS]; exact unp_pack (by rw [hx]; exact h)
  have hx0 : x = 0 ∨ x = 100 ∨ x = 101 := by rw [← hx]; unfold packE; split; exact .inr (.inr rfl); split; exact .inl rfl; exact .inr (.inl rfl)
  rw [hS] at hSz
  have HS := Lib.hid hS
  have HX := Lib.hid hx
  have HSz := Lib.hid hSz
  have Hup := Lib.hid hup
  have HL80 := Lib.hid hL80
  clear hS hx hSz hup hL80
  go_upto_region 5 with (go_at_call 17; refine (pack_at _ _ L HL2.out).mono ?_; rintro e w3 ⟨he, hE3⟩; rw [HS.out, HX.out] at he; subst he; have H3 := Lib.hid hE3; clear hE3)
  obtain ⟨U, hU⟩ : ∃ U, unpL S = U := ⟨_, rfl⟩
  obtain ⟨y, hy⟩ : ∃ y, unpE S = y := ⟨_, rfl⟩
  have hUY : x = 0 → y = 0 ∧ U = L := fun h => by
    have := unp_some (Hup.out h)
    exact ⟨by rw [← hy, this.1], by rw [← hU, this.2]⟩
  have HU := Lib.hid hU
  have HY := Lib.hid hy
  have HUY := Lib.hid hUY
  clear hU hy hUY
  go_upto_region 6 with (go_at_call 21; refine (unpack_at _ S HSz.out).mono ?_; intro e w4 he; obtain ⟨uA, ucap, he1, he2, he3⟩ := he.slc; rw [HU.out, HY.out] at he1; rw [HU.out] at he2; subst he1; have HM := Lib.hid he2; have H4 := Lib.hid he3; clear he he2 he3)
  have HE4 := Lib.hid (HE2.out.trans (H3.out.trans H4.out))
  have HL4 := Lib.hid ((HL2.out.ext H3.out).ext H4.out)
  clear HE2 H3 H4 HL2
  rcases hx0 with rfl | rfl | rfl
  · obtain ⟨rfl, rfl⟩ := HUY.out rfl
    refine wp_region_line [(0,0),(1,0),(2,0),(3,0),(4,0),(5,0),(6,0),(7,0),(8,1),(9,0),(10,0),(11,0)] (by kernel_rfl) (by kernel_rfl) (Ext w4) (fun _ _ h k => h.trans k) (Ext.refl _) ?_
    iterate 8
      first
        | refine Fx.skip rfl rfl (by simp only [List.set_cons_zero, List.set_cons_succ]; rfl) ?_
        | (with_reducible refine Fx.lab0 ?_
           first
             | refine Fx.moveT rfl rfl rfl (by simp only [List.set_cons_zero, List.set_cons_succ]; rfl) ?_
             | refine Fx.assignT rfl rfl rfl (by simp only [List.set_cons_zero, List.set_cons_succ]; rfl) ?_
             | refine Fx.pure_ rfl rfl (fun _ => by go_simp; first | done | rfl) (by simp only [List.set_cons_zero, List.set_cons_succ]; rfl) ?_)
        | (with_reducible refine Fx.lab1 ?_
           refine Fx.look rfl rfl (fun w' hC => by obtain ⟨hc, hf, hl⟩ := Ext.cells hC; go_simp; rfl) (by simp only [List.set_cons_zero, List.set_cons_succ]; rfl) ?_)
    refine Fx.call1 (v := .bool true) (args := #[.slice uA U.length ucap, .slice fA U.length fcap]) rfl rfl (fun _ => by first | (go_simp; done) | (go_simp; rfl)) (fun w' hC => (same_ref _ _ U U w' (HM.out.ext hC) (HL4.out.ext hC) (by have := HL80.out; omega)).mono (fun e w'' hh => by rw [show sameB U U = true by simp [sameB]] at hh; exact hh)) (by simp only [List.set_cons_zero, List.set_cons_succ]; rfl) ?_
    iterate 3
      first
        | refine Fx.skip rfl rfl (by simp only [List.set_cons_zero, List.set_cons_succ]; rfl) ?_
        | (with_reducible refine Fx.lab0 ?_
           first
             | refine Fx.moveT rfl rfl rfl (by simp only [List.set_cons_zero, List.set_cons_succ]; rfl) ?_
             | refine Fx.assignT rfl rfl rfl (by simp only [List.set_cons_zero, List.set_cons_succ]; rfl) ?_
             | refine Fx.pure_ rfl rfl (fun _ => by go_simp; first | done | rfl) (by simp only [List.set_cons_zero, List.set_cons_succ]; rfl) ?_)
        | (with_reducible refine Fx.lab1 ?_
           refine Fx.look rfl rfl (fun w' hC => by obtain ⟨hc, hf, hl⟩ := Ext.cells hC; go_simp; rfl) (by simp only [List.set_cons_zero, List.set_cons_succ]; rfl) ?_)
    refine Fx.done (fun w5 hC => ?_)
    have HE5 := Lib.hid (HE4.out.trans hC)
    clear hC HE4
    obtain ⟨R, hR⟩ : ∃ R, unpL t = R := ⟨_, rfl⟩
    obtain ⟨z, hz⟩ : ∃ z, unpE t = z := ⟨_, rfl⟩
    obtain ⟨nR, hnR⟩ : ∃ nR, R.length = nR := ⟨_, rfl⟩
    obtain ⟨Q, hQ⟩ : ∃ Q, packS R = Q := ⟨_, rfl⟩
    obtain ⟨q, hq⟩ : ∃ q, packE R = q := ⟨_, rfl⟩
    have hway : (z = 101 ∧ nR = 0) ∨ (z = 0 ∧ q = 0 ∧ Q = t) := by
      cases hu : unp t with
      | none =>
        have := unp_none hu
        refine .inl ⟨by rw [← hz, this.1], ?_⟩
        rw [← hnR, ← hR, this.2]; rfl
      | some r =>
        have h1 := unp_some hu
        obtain ⟨h2, h3, -⟩ := unp_back hu
        have : R = r := by rw [← hR, h1.2]
        exact .inr ⟨by rw [← hz, h1.1], by rw [← hq, this, h2], by rw [← hQ, this, h3]⟩
    have HR := Lib.hid hR
    have HZ := Lib.hid hz
    have HnR := Lib.hid hnR
    have HQ := Lib.hid hQ
    have Hq := Lib.hid hq
    have HW := Lib.hid hway
    clear hR hz hnR hQ hq hway
    go_upto_region 9 with (go_at_call 21; refine (unpack_at _ t Htz.out).mono ?_; intro e w6 he; obtain ⟨rA, rcap, he1, he2, he3⟩ := he.slc; rw [HR.out, HZ.out, HnR.out] at he1; rw [HR.out, HnR.out] at he2; subst he1; have HM6 := Lib.hid he2; have H6 := Lib.hid he3; clear he he2 he3)
    go_upto_region 10 with (go_at_call 17; refine (pack_at _ _ R HM6.out).mono ?_; rintro e w7 ⟨he, hE7⟩; rw [HQ.out, Hq.out] at he; subst he; have H7 := Lib.hid hE7; clear hE7)
    rcases HW.out with ⟨rfl, rfl⟩ | ⟨rfl, rfl, rfl⟩
    · go_wp2
      go_ret
      exact ⟨by simp, HE5.out.trans (H6.out.trans H7.out)⟩
    · go_wp2
      go_ret
      exact ⟨by simp, HE5.out.trans (H6.out.trans H7.out)⟩
  · obtain ⟨w5, hw5⟩ : ∃ w5, w4 = w5 := ⟨_, rfl⟩
    rw [hw5] at HE4 ⊢
    have HE5 := HE4
    clear HE4
    obtain ⟨R, hR⟩ : ∃ R, unpL t = R := ⟨_, rfl⟩
    obtain ⟨z, hz⟩ : ∃ z, unpE t = z := ⟨_, rfl⟩
    obtain ⟨nR, hnR⟩ : ∃ nR, R.length = nR := ⟨_, rfl⟩
    obtain ⟨Q, hQ⟩ : ∃ Q, packS R = Q := ⟨_, rfl⟩
    obtain ⟨q, hq⟩ : ∃ q, packE R = q := ⟨_, rfl⟩
    have hway : (z = 101 ∧ nR = 0) ∨ (z = 0 ∧ q = 0 ∧ Q = t) := by
      cases hu : unp t with
      | none =>
        have := unp_none hu
        refine .inl ⟨by rw [← hz, this.1], ?_⟩
        rw [← hnR, ← hR, this.2]; rfl
      | some r =>
        have h1 := unp_some hu
        obtain ⟨h2, h3, -⟩ := unp_back hu
        have : R = r := by rw [← hR, h1.2]
        exact .inr ⟨by rw [← hz, h1.1], by rw [← hq, this, h2], by rw [← hQ, this, h3]⟩
    have HR := Lib.hid hR
    have HZ := Lib.hid hz
    have HnR := Lib.hid hnR
    have HQ := Lib.hid hQ
    have Hq := Lib.hid hq
    have HW := Lib.hid hway
    clear hR hz hnR hQ hq hway
    go_upto_region 9 with (go_at_call 21; refine (unpack_at _ t Htz.out).mono ?_; intro e w6 he; obtain ⟨rA, rcap, he1, he2, he3⟩ := he.slc; rw [HR.out, HZ.out, HnR.out] at he1; rw [HR.out, HnR.out] at he2; subst he1; have HM6 := Lib.hid he2; have H6 := Lib.hid he3; clear he he2 he3)
    go_upto_region 10 with (go_at_call 17; refine (pack_at _ _ R HM6.out).mono ?_; rintro e w7 ⟨he, hE7⟩; rw [HQ.out, Hq.out] at he; subst he; have H7 := Lib.hid hE7; clear hE7)
    rcases HW.out with ⟨rfl, rfl⟩ | ⟨rfl, rfl, rfl⟩
    · go_wp2
      go_ret
      exact ⟨by simp, HE5.out.trans (H6.out.trans H7.out)⟩
    · go_wp2
      go_ret
      exact ⟨by simp, HE5.out.trans (H6.out.trans H7.out)⟩
  · obtain ⟨w5, hw5⟩ : ∃ w5, w4 = w5 := ⟨_, rfl⟩
    rw [hw5] at HE4 ⊢
    have HE5 := HE4
    clear HE4
    obtain ⟨R, hR⟩ : ∃ R, unpL t = R := ⟨_, rfl⟩
    obtain ⟨z, hz⟩ : ∃ z, unpE t = z := ⟨_, rfl⟩
    obtain ⟨nR, hnR⟩ : ∃ nR, R.length = nR := ⟨_, rfl⟩
    obtain ⟨Q, hQ⟩ : ∃ Q, packS R = Q := ⟨_, rfl⟩
    obtain ⟨q, hq⟩ : ∃ q, packE R = q := ⟨_, rfl⟩
    have hway : (z = 101 ∧ nR = 0) ∨ (z = 0 ∧ q = 0 ∧ Q = t) := by
      cases hu : unp t with
      | none =>
        have := unp_none hu
        refine .inl ⟨by rw [← hz, this.1], ?_⟩
        rw [← hnR, ← hR, this.2]; rfl
      | some r =>
        have h1 := unp_some hu
        obtain ⟨h2, h3, -⟩ := unp_back hu
        have : R = r := by rw [← hR, h1.2]
        exact .inr ⟨by rw [← hz, h1.1], by rw [← hq, this, h2], by rw [← hQ, this, h3]⟩
    have HR := Lib.hid hR
    have HZ := Lib.hid hz
    have HnR := Lib.hid hnR
    have HQ := Lib.hid hQ
    have Hq := Lib.hid hq
    have HW := Lib.hid hway
    clear hR hz hnR hQ hq hway
    go_upto_region 9 with (go_at_call 21; refine (unpack_at _ t Htz.out).mono ?_; intro e w6 he; obtain ⟨rA, rcap, he1, he2, he3⟩ := he.slc; rw [HR.out, HZ.out, HnR.out] at he1; rw [HR.out, HnR.out] at he2; subst he1; have HM6 := Lib.hid he2; have H6 := Lib.hid he3; clear he he2 he3)
    go_upto_region 10 with (go_at_call 17; refine (pack_at _ _ R HM6.out).mono ?_; rintro e w7 ⟨he, hE7⟩; rw [HQ.out, Hq.out] at he; subst he; have H7 := Lib.hid hE7; clear hE7)
    rcases HW.out with ⟨rfl, rfl⟩ | ⟨rfl, rfl, rfl⟩
    · go_wp2
      go_ret
      exact ⟨by simp, HE5.out.trans (H6.out.trans H7.out)⟩
    · go_wp2
      go_ret
      exact ⟨by simp, HE5.out.trans (H6.out.trans H7.out)⟩
end Go.Proofs.Ytbjondnombnpbaa
