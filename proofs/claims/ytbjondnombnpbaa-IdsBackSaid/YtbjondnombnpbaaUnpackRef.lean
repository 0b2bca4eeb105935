/-
  rostrumref10.Unpack: the same messages.
-/
import Derived.Test.YtbjondnombnpbaaUnpack
namespace Go.Proofs.Ytbjondnombnpbaa
open Go.RowKit
attribute [local go_sem] Oper.semAt_some

theorem byteAt_extract (t : ByteArray) (p i : Nat) (h : p + i < t.size) : byteAt (t.extract p t.size) i = byteAt t (p + i) := by
  unfold byteAt
  have e : (t.extract p t.size).data.toList = t.data.toList.drop p := by
    have h1 : t.data.toList.length = t.size := rfl
    simp [ByteArray.data_extract, Array.toList_extract, List.extract]
    rw [← h1, List.take_of_length_le (by simp)]
  rw [e, List.getD_eq_getElem?_getD, List.getD_eq_getElem?_getD, List.getElem?_drop]
theorem extract2 (t : ByteArray) (p a b : Nat) (h : p + b ≤ t.size) : (t.extract p t.size).extract a b = t.extract (p + a) (p + b) := by
  rw [ByteArray.extract_extract, Nat.min_eq_left h]
theorem extract3 (t : ByteArray) (p a : Nat) (h : p ≤ t.size) : (t.extract p t.size).extract a (t.extract p t.size).size = t.extract (p + a) t.size := by
  rw [ByteArray.extract_extract]
  congr 1
  rw [ByteArray.size_extract]; omega
theorem firstF_at (t : ByteArray) (p : Nat) (hp : p ≤ t.size) : firstF (t.extract p t.size) =
    if t.size < p + 9 then none
    else if 1000 < get4 (t.extract (p + 5) (p + 9)) ∨ (t.size : Int) < p + 9 + get4 (t.extract (p + 5) (p + 9)) then none
    else if rightB ⟨byteAt t p, get4 (t.extract (p + 1) (p + 5)), t.extract (p + 9) (p + 9 + (get4 (t.extract (p + 5) (p + 9))).toNat)⟩ then some ⟨byteAt t p, get4 (t.extract (p + 1) (p + 5)), t.extract (p + 9) (p + 9 + (get4 (t.extract (p + 5) (p + 9))).toNat)⟩
    else none := by
  have hs : (t.extract p t.size).size = t.size - p := by rw [ByteArray.size_extract]; omega
  unfold firstF
  by_cases h9 : t.size < p + 9
  · rw [if_pos h9, if_pos (by omega)]
  · rw [if_neg h9, if_neg (by omega), extract2 t p 5 9 (by omega), extract2 t p 1 5 (by omega)]
    have hn := get4_lt (t.extract (p + 5) (p + 9))
    generalize get4 (t.extract (p + 5) (p + 9)) = n at *
    by_cases hb : 1000 < n ∨ (t.size : Int) < p + 9 + n
    · rw [if_pos hb, if_pos (by omega)]
    · rw [if_neg hb, if_neg (by omega), extract2 t p 9 (9 + n.toNat) (by omega), byteAt_extract t p 0 (by omega)]
      rw [Nat.add_assoc p 9]; rfl
set_option maxRecDepth 100000 in
set_option maxHeartbeats 6400000 in
theorem unpack_ref (w : World) (t : ByteArray) (ht : t.size ≤ 100000) : Calls Try.prog 22 #[.string t] w (UnpR w t) := by
  have hnil := fun h : unp t = none => (show UnpR w t (.returned (.tuple #[.slice none 0 0, .int .i64 101])) w from by
    obtain ⟨h1, h2⟩ := unp_none h
    exact ⟨_, by rw [h1], by rw [h2]; exact msl_nil w, Ext.refl _⟩)
  by_cases h1 : t.size < 1
  · have h1' : (t.size : Int) < 1 := by omega
    have hn : unp t = none := by unfold unp; rw [if_pos (.inl h1)]
    have Hf := Lib.hid (hnil hn)
    clear hnil hn h1
    go_enter Try.func22, Try.ntmps22
    go_wp2
    go_ret2
    exact Hf.out
  · have h1' : ¬ (t.size : Int) < 1 := by omega
    have hix : ∀ w, (Instr.index 9 (.string t) (.int .i64 0)).run Try.prog w = .ok (.int .u8 (byteAt t 0)) w := fun w => run_idx t 0 (by omega) w
    obtain ⟨hb0, hb1⟩ := byteAt_lt t 0
    obtain ⟨N, hN⟩ : ∃ N : Nat, byteAt t 0 = N := ⟨(byteAt t 0).toNat, by omega⟩
    have hu : unp t = if 64 < (N : Int) then none else unpF N (t.extract 1 t.size) := by
      unfold unp
      rw [hN]
      by_cases h : 64 < (N : Int)
      · rw [if_pos (.inr h), if_pos h]
      · rw [if_neg (by omega), if_neg h]; rfl
    rw [hN] at hix hb0 hb1
    have hwN : IntKind.i64.wrap (N : Int) = N := IntWalk.i64_in _ ⟨by omega, by omega⟩
    have Hu := Lib.hid hu
    clear hu hN
    by_cases h64 : 64 < (N : Int)
    · have Hf := Lib.hid (hnil (by rw [Hu.out, if_pos h64]))
      clear hnil h1
      go_enter Try.func22, Try.ntmps22
      go_wp2
      go_ret2
      exact Hf.out
    · have ht1 : (1 : Int) ≤ t.size := by omega
      have HU : Hid (unp t = unpF N (t.extract 1 t.size)) := Lib.hid (by rw [Hu.out, if_neg h64])
      clear Hu hnil
      go_enter Try.func22, Try.ntmps22
      go_wp2
      go_loopw [4, 5, 6] (fun q s i wr => ∃ (k p : Nat) (l : List Ms) (v : Value), v = q ∧ s = .int .i64 p ∧ i = .int .i64 k ∧ k ≤ N ∧ p ≤ t.size ∧ Hid (OwnMs wr v l) ∧ Hid (∀ b, v.ownBlock = some b → w.heap.size ≤ b) ∧ Hid (Ext w wr) ∧ Hid (unp t = (unpF (N - k) (t.extract p t.size)).map (l ++ ·)) ∧ Hid (l.length = k)) (fun _ _ i _ => N - (intOf i).toNat)
      case atStart => exact ⟨0, 1, [], _, rfl, rfl, rfl, Nat.zero_le _, by omega, Lib.hid Own.nil, Lib.hid (fun b hb => by simp [Value.ownBlock] at hb), Lib.hid (Ext.refl _), Lib.hid (by rw [HU.out]; simp), Lib.hid rfl⟩
      case round =>
        obtain ⟨k, p, l, v, rfl, rfl, rfl, hk, hp, hown, hblk, hE, hun, hll⟩ := hrel
        by_cases hlt : k < N
        · have hwk : IntKind.i64.wrap ((k : Int) + 1) = (k : Int) + 1 := IntWalk.i64_in _ ⟨by omega, by omega⟩
          have hws : IntKind.i64.wrap ((t.size : Int) - p) = (t.size : Int) - p := IntWalk.i64_in _ ⟨by omega, by omega⟩
          have hws9 : IntKind.i64.wrap ((t.size : Int) - p - 9) = (t.size : Int) - p - 9 := IntWalk.i64_in _ ⟨by omega, by omega⟩
          have hw1 : IntKind.i64.wrap ((p : Int) + 1) = (p : Int) + 1 := IntWalk.i64_in _ ⟨by omega, by omega⟩
          have hw5 : IntKind.i64.wrap ((p : Int) + 5) = (p : Int) + 5 := IntWalk.i64_in _ ⟨by omega, by omega⟩
          have hw9 : IntKind.i64.wrap ((p : Int) + 9) = (p : Int) + 9 := IntWalk.i64_in _ ⟨by omega, by omega⟩
          obtain ⟨R, hR⟩ : ∃ R, firstF (t.extract p t.size) = R := ⟨_, rfl⟩
          have hfa := firstF_at t p hp
          rw [hR] at hfa
          have HR := Lib.hid hR
          have hbad : R = none → unp t = none := by
            intro h
            obtain ⟨j, hj⟩ : ∃ j, N - k = j + 1 := ⟨N - k - 1, by omega⟩
            rw [hun.out, hj, unpF, hR, h]; rfl
          have Hbad := Lib.hid hbad
          clear hR hbad
          by_cases h9 : t.size < p + 9
          · have h9' : (t.size : Int) - p < 9 := by omega
            rw [if_pos h9] at hfa
            have Hu2 := Lib.hid (unp_none (Hbad.out hfa))
            clear hfa h9
            go_wp2
            go_ret2
            exact ⟨_, by rw [Hu2.out.1]; rfl, by rw [Hu2.out.2]; exact msl_nil _, hE.out⟩
          · have h9' : ¬ (t.size : Int) - p < 9 := by omega
            rw [if_neg h9] at hfa
            have hp0 : (0 : Int) ≤ (p : Int) + 1 := by omega
            have hp5 : (0 : Int) ≤ (p : Int) + 5 := by omega
            have hp50 : (p : Int) + 5 ≤ t.size := by omega
            have hp51 : (p : Int) + 1 ≤ (p : Int) + 5 := by omega
            have hp59 : (p : Int) + 5 ≤ (p : Int) + 9 := by omega
            have hp90 : (p : Int) + 9 ≤ t.size := by omega
            have ht1' : ((p : Int) + 1).toNat = p + 1 := by omega
            have ht5 : ((p : Int) + 5).toNat = p + 5 := by omega
            have ht9 : ((p : Int) + 9).toNat = p + 9 := by omega
            have hz1 : (t.extract (p + 1) (p + 5)).size = 4 := by rw [ByteArray.size_extract]; omega
            have hz2 : (t.extract (p + 5) (p + 9)).size = 4 := by rw [ByteArray.size_extract]; omega
            obtain ⟨c, hc⟩ : ∃ c, get4 (t.extract (p + 1) (p + 5)) = c := ⟨_, rfl⟩
            obtain ⟨n, hn⟩ : ∃ n, get4 (t.extract (p + 5) (p + 9)) = n := ⟨_, rfl⟩
            have hn0 := get4_lt (t.extract (p + 5) (p + 9))
            rw [hn] at hn0
            rw [hc, hn] at hfa
            have HR2 := Lib.hid hfa
            have Hz1 := Lib.hid hz1
            have Hz2 := Lib.hid hz2
            have Hc := Lib.hid hc
            have Hn := Lib.hid hn
            clear hfa hz1 hz2 hc hn h9
            go_upto_region 10 with fail
            refine wp_region_line [(0,0),(1,0),(2,0),(3,0),(4,0),(5,0),(6,1),(7,0),(8,0),(9,0),(10,0),(11,0)] (by kernel_rfl) (by kernel_rfl) (Ext wr) (fun _ _ h k => h.trans k) (Ext.refl _) ?_
            iterate 5
              first
                | refine Fx.skip rfl rfl (by simp only [List.set_cons_zero, List.set_cons_succ]; rfl) ?_
                | (with_reducible refine Fx.lab0 ?_
                   first
                     | refine Fx.moveT rfl rfl rfl (by simp only [List.set_cons_zero, List.set_cons_succ]; rfl) ?_
                     | refine Fx.assignT rfl rfl rfl (by simp only [List.set_cons_zero, List.set_cons_succ]; rfl) ?_
                     | refine Fx.pure_ rfl rfl (fun _ => by go_simp; first | done | rfl) (by simp only [List.set_cons_zero, List.set_cons_succ]; rfl) ?_)
                | (with_reducible refine Fx.lab1 ?_
                   refine Fx.look rfl rfl (fun w' hC => by obtain ⟨hc, hf, hl⟩ := Ext.cells hC; go_simp; rfl) (by simp only [List.set_cons_zero, List.set_cons_succ]; rfl) ?_)
            refine Fx.pure_ (v := .string (t.extract (p + 1) (p + 5))) rfl rfl (fun _ => by first | (go_simp; done) | (go_simp; rfl)) (by simp only [List.set_cons_zero, List.set_cons_succ]; rfl) ?_
            refine Fx.call1 (v := .tuple #[.int .u32 c, .int .i64 0]) (args := #[.string (t.extract (p + 1) (p + 5))]) rfl rfl (fun _ => by first | (go_simp; done) | (go_simp; rfl)) (fun w' hC => (get_ref _ Hz1.out w').mono (fun e w'' hh => by rw [Hc.out] at hh; exact hh)) (by simp only [List.set_cons_zero, List.set_cons_succ]; rfl) ?_
            iterate 5
              first
                | refine Fx.skip rfl rfl (by simp only [List.set_cons_zero, List.set_cons_succ]; rfl) ?_
                | (with_reducible refine Fx.lab0 ?_
                   first
                     | refine Fx.moveT rfl rfl rfl (by simp only [List.set_cons_zero, List.set_cons_succ]; rfl) ?_
                     | refine Fx.assignT rfl rfl rfl (by simp only [List.set_cons_zero, List.set_cons_succ]; rfl) ?_
                     | refine Fx.pure_ rfl rfl (fun _ => by go_simp; first | done | rfl) (by simp only [List.set_cons_zero, List.set_cons_succ]; rfl) ?_)
                | (with_reducible refine Fx.lab1 ?_
                   refine Fx.look rfl rfl (fun w' hC => by obtain ⟨hc, hf, hl⟩ := Ext.cells hC; go_simp; rfl) (by simp only [List.set_cons_zero, List.set_cons_succ]; rfl) ?_)
            refine Fx.done (fun w2 hC => ?_)
            have HE2 := Lib.hid (hE.out.trans hC)
            have Hown2 := Lib.hid (hown.out.ext hC)
            clear hC hE hown
            go_upto_region 11 with fail
            refine wp_region_line [(0,0),(1,0),(2,0),(3,0),(4,0),(5,0),(6,1),(7,0),(8,0),(9,0),(10,0),(11,0)] (by kernel_rfl) (by kernel_rfl) (Ext w2) (fun _ _ h k => h.trans k) (Ext.refl _) ?_
            iterate 5
              first
                | refine Fx.skip rfl rfl (by simp only [List.set_cons_zero, List.set_cons_succ]; rfl) ?_
                | (with_reducible refine Fx.lab0 ?_
                   first
                     | refine Fx.moveT rfl rfl rfl (by simp only [List.set_cons_zero, List.set_cons_succ]; rfl) ?_
                     | refine Fx.assignT rfl rfl rfl (by simp only [List.set_cons_zero, List.set_cons_succ]; rfl) ?_
                     | refine Fx.pure_ rfl rfl (fun _ => by go_simp; first | done | rfl) (by simp only [List.set_cons_zero, List.set_cons_succ]; rfl) ?_)
                | (with_reducible refine Fx.lab1 ?_
                   refine Fx.look rfl rfl (fun w' hC => by obtain ⟨hc, hf, hl⟩ := Ext.cells hC; go_simp; rfl) (by simp only [List.set_cons_zero, List.set_cons_succ]; rfl) ?_)
            refine Fx.pure_ (v := .string (t.extract (p + 5) (p + 9))) rfl rfl (fun _ => by first | (go_simp; done) | (go_simp; rfl)) (by simp only [List.set_cons_zero, List.set_cons_succ]; rfl) ?_
            refine Fx.call1 (v := .tuple #[.int .u32 n, .int .i64 0]) (args := #[.string (t.extract (p + 5) (p + 9))]) rfl rfl (fun _ => by first | (go_simp; done) | (go_simp; rfl)) (fun w' hC => (get_ref _ Hz2.out w').mono (fun e w'' hh => by rw [Hn.out] at hh; exact hh)) (by simp only [List.set_cons_zero, List.set_cons_succ]; rfl) ?_
            iterate 5
              first
                | refine Fx.skip rfl rfl (by simp only [List.set_cons_zero, List.set_cons_succ]; rfl) ?_
                | (with_reducible refine Fx.lab0 ?_
                   first
                     | refine Fx.moveT rfl rfl rfl (by simp only [List.set_cons_zero, List.set_cons_succ]; rfl) ?_
                     | refine Fx.assignT rfl rfl rfl (by simp only [List.set_cons_zero, List.set_cons_succ]; rfl) ?_
                     | refine Fx.pure_ rfl rfl (fun _ => by go_simp; first | done | rfl) (by simp only [List.set_cons_zero, List.set_cons_succ]; rfl) ?_)
                | (with_reducible refine Fx.lab1 ?_
                   refine Fx.look rfl rfl (fun w' hC => by obtain ⟨hc, hf, hl⟩ := Ext.cells hC; go_simp; rfl) (by simp only [List.set_cons_zero, List.set_cons_succ]; rfl) ?_)
            refine Fx.done (fun w3 hC => ?_)
            have HE3 := Lib.hid (HE2.out.trans hC)
            have Hown3 := Lib.hid (Hown2.out.ext hC)
            clear hC HE2 Hown2
            have hwn : IntKind.i64.wrap n = n := IntWalk.i64_in _ ⟨by omega, by omega⟩
            by_cases hbad : 1000 < n ∨ (t.size : Int) < p + 9 + n
            · have hr0 := HR2.out
              rw [if_pos hbad] at hr0
              have Hu2 := Lib.hid (unp_none (Hbad.out hr0))
              have hb : (1000 < n) ∨ (¬ 1000 < n ∧ (t.size : Int) - p - 9 < n) := by omega
              clear hbad hr0
              rcases hb with hb | ⟨hb, hb2⟩
              all_goals
                go_wp2
                go_ret2
                exact ⟨_, by rw [Hu2.out.1]; rfl, by rw [Hu2.out.2]; exact msl_nil _, HE3.out⟩
            · have hb1 : ¬ 1000 < n := by omega
              have hb2 : ¬ (t.size : Int) - p - 9 < n := by omega
              have hb3 : (p : Int) + 9 + n ≤ t.size := by omega
              have hb4 : (p : Int) + 9 ≤ (p : Int) + 9 + n := by omega
              have hb5 : (0 : Int) ≤ (p : Int) + 9 := by omega
              have hb6 : (0 : Int) ≤ (p : Int) + 9 + n := by omega
              have hwx : IntKind.i64.wrap ((p : Int) + 9 + n) = (p : Int) + 9 + n := IntWalk.i64_in _ ⟨by omega, by omega⟩
              have htn : ((p : Int) + 9 + n).toNat = p + 9 + n.toNat := by omega
              have hds : ((t.extract (p + 9) (p + 9 + n.toNat)).size : Int) = n := by rw [ByteArray.size_extract]; omega
              have HR3 := HR2.out
              rw [if_neg hbad] at HR3
              replace HR3 := Lib.hid HR3
              have Hds := Lib.hid hds
              obtain ⟨m, hm⟩ : ∃ m : Ms, (⟨byteAt t p, c, t.extract (p + 9) (p + 9 + n.toNat)⟩ : Ms) = m := ⟨_, rfl⟩
              have Hm := Lib.hid hm
              have hb7 := byteAt_lt t p
              have hwb : IntKind.i64.wrap (byteAt t p) = byteAt t p := IntWalk.i64_in _ ⟨by omega, by omega⟩
              clear hds HR2 hbad hm hb7
              go_upto_region 14 with fail
              refine wp_region_plan [(0,0),(1,0),(2,0),(3,0),(4,0),(5,0),(6,0),(7,0),(8,0),(9,0),(10,0),(11,0),(12,0),(13,0),(14,0),(15,0),(16,2),(17,3)] (by kernel_rfl) (by kernel_rfl) (by kernel_rfl) (Ext w3) (fun _ _ h k => h.trans k) (Ext.drawn _ _) ?_
              iterate 2
                first
                  | refine Fx.skip rfl rfl (by simp only [List.set_cons_zero, List.set_cons_succ]; rfl) ?_
                  | (with_reducible refine Fx.lab0 ?_
                     first
                       | refine Fx.moveT rfl rfl rfl (by simp only [List.set_cons_zero, List.set_cons_succ]; rfl) ?_
                       | refine Fx.assignT rfl rfl rfl (by simp only [List.set_cons_zero, List.set_cons_succ]; rfl) ?_
                       | refine Fx.pure_ rfl rfl (fun _ => by go_simp; first | done | rfl) (by simp only [List.set_cons_zero, List.set_cons_succ]; rfl) ?_)
                  | (with_reducible refine Fx.lab1 ?_
                     refine Fx.look rfl rfl (fun w' hC => by obtain ⟨hc, hf, hl⟩ := Ext.cells hC; go_simp; rfl) (by simp only [List.set_cons_zero, List.set_cons_succ]; rfl) ?_)
              refine Fx.pure_ rfl rfl (fun w => op_idx t p p rfl rfl rfl (by omega) w) (by simp only [List.set_cons_zero, List.set_cons_succ]; rfl) ?_
              iterate 11
                first
                  | refine Fx.skip rfl rfl (by simp only [List.set_cons_zero, List.set_cons_succ]; rfl) ?_
                  | (with_reducible refine Fx.lab0 ?_
                     first
                       | refine Fx.moveT rfl rfl rfl (by simp only [List.set_cons_zero, List.set_cons_succ]; rfl) ?_
                       | refine Fx.assignT rfl rfl rfl (by simp only [List.set_cons_zero, List.set_cons_succ]; rfl) ?_
                       | refine Fx.pure_ rfl rfl (fun _ => by go_simp; first | done | rfl) (by simp only [List.set_cons_zero, List.set_cons_succ]; rfl) ?_)
                  | (with_reducible refine Fx.lab1 ?_
                     refine Fx.look rfl rfl (fun w' hC => by obtain ⟨hc, hf, hl⟩ := Ext.cells hC; go_simp; rfl) (by simp only [List.set_cons_zero, List.set_cons_succ]; rfl) ?_)
              refine Fx.pure_ (v := .string (t.extract (p + 9) (p + 9 + n.toNat))) rfl rfl (fun _ => by first | (go_simp; done) | (go_simp; rfl)) (by simp only [List.set_cons_zero, List.set_cons_succ]; rfl) ?_
              first
                | refine Fx.skip rfl rfl (by simp only [List.set_cons_zero, List.set_cons_succ]; rfl) ?_
                | (with_reducible refine Fx.lab0 ?_
                   first
                     | refine Fx.moveT rfl rfl rfl (by simp only [List.set_cons_zero, List.set_cons_succ]; rfl) ?_
                     | refine Fx.assignT rfl rfl rfl (by simp only [List.set_cons_zero, List.set_cons_succ]; rfl) ?_
                     | refine Fx.pure_ rfl rfl (fun _ => by go_simp; first | done | rfl) (by simp only [List.set_cons_zero, List.set_cons_succ]; rfl) ?_)
                | (with_reducible refine Fx.lab1 ?_
                   refine Fx.look rfl rfl (fun w' hC => by obtain ⟨hc, hf, hl⟩ := Ext.cells hC; go_simp; rfl) (by simp only [List.set_cons_zero, List.set_cons_succ]; rfl) ?_)
              refine Fx.mkPtr (fun B w' => w3.heap.size ≤ B ∧ Obj_ w' B 3 (msF ms0)) (fun B _ _ h k => ⟨h.1, h.2.ext k⟩) rfl rfl (fun w' hC => stepAt_alloc_Ms hC) (fun B8 => ?_)
              simp only [List.set_cons_zero, List.set_cons_succ]
              refine Fx.eff0 (MsPre w3 B8 m) (msPre_stable _ _ _) rfl rfl (fun w' hC => stepAt_mono (stepAt_store_Ms hC.1 hC.2.1 hC.2.2 m rfl (by rw [← Hm.out]; rfl)) (fun _ w'' h => ⟨h.1, hC.2.1, h.2⟩)) ?_
              refine Fx.done (fun w4 hC => ?_)
              obtain ⟨hC1, -, hOb⟩ := hC
              obtain ⟨d0, d1, d2⟩ := hOb.ms
              have dl := hOb.lt
              have HE4 := Lib.hid (HE3.out.trans hC1)
              have Hown4 := Lib.hid (Hown3.out.ext hC1)
              clear hC1 hOb HE3 Hown3
              obtain ⟨r, hr⟩ : ∃ r, rightB m = r := ⟨_, rfl⟩
              have Hr := Lib.hid hr
              clear hr
              go_upto_region 15 with fail
              refine wp_region_line [(0,1),(1,1),(2,0)] (by kernel_rfl) (by kernel_rfl) (Ext w4) (fun _ _ h k => h.trans k) (Ext.refl _) ?_
              refine Fx.look rfl rfl (op_load_Ms' (m := m) dl d0 d1 d2 rfl) (by simp only [List.set_cons_zero, List.set_cons_succ]; rfl) ?_
              refine Fx.call1 (v := .bool r) (args := #[m.val]) rfl rfl (fun _ => by first | (go_simp; done) | (go_simp; rfl)) (fun w' hC => (right_ref m w').mono (fun e w'' hh => by rw [Hr.out] at hh; exact hh)) (by simp only [List.set_cons_zero, List.set_cons_succ]; rfl) ?_
              first
                | refine Fx.skip rfl rfl (by simp only [List.set_cons_zero, List.set_cons_succ]; rfl) ?_
                | (with_reducible refine Fx.lab0 ?_
                   first
                     | refine Fx.moveT rfl rfl rfl (by simp only [List.set_cons_zero, List.set_cons_succ]; rfl) ?_
                     | refine Fx.assignT rfl rfl rfl (by simp only [List.set_cons_zero, List.set_cons_succ]; rfl) ?_
                     | refine Fx.pure_ rfl rfl (fun _ => by go_simp; first | done | rfl) (by simp only [List.set_cons_zero, List.set_cons_succ]; rfl) ?_)
                | (with_reducible refine Fx.lab1 ?_
                   refine Fx.look rfl rfl (fun w' hC => by obtain ⟨hc, hf, hl⟩ := Ext.cells hC; go_simp; rfl) (by simp only [List.set_cons_zero, List.set_cons_succ]; rfl) ?_)
              refine Fx.done (fun w5 hC => ?_)
              obtain ⟨xc, xf, xl⟩ := hC.cells
              replace d0 := (xc _ _ dl).trans d0
              replace d1 := (xc _ _ dl).trans d1
              replace d2 := (xc _ _ dl).trans d2
              replace dl := xl _ dl
              have HE5 := Lib.hid (HE4.out.trans hC)
              have Hown5 := Lib.hid (Hown4.out.ext hC)
              clear xc xf xl hC HE4 Hown4
              cases r with
              | false =>
                have hr0 := HR3.out
                rw [Hm.out, Hr.out, if_neg (by simp)] at hr0
                have Hu2 := Lib.hid (unp_none (Hbad.out hr0))
                clear hr0
                go_wp2
                go_ret2
                exact ⟨_, by rw [Hu2.out.1]; rfl, by rw [Hu2.out.2]; exact msl_nil _, HE5.out⟩
              | true =>
                have hmd : m.d.size = n.toNat := by have := Hds.out; rw [← Hm.out]; show (t.extract (p + 9) (p + 9 + n.toNat)).size = _; omega
                have hr0 := HR3.out
                rw [Hm.out, Hr.out, if_pos rfl] at hr0
                have hR5 : firstF (t.extract p t.size) = some m := by rw [HR.out, hr0]
                have HR5 := Lib.hid hR5
                have Hmd := Lib.hid hmd
                have hs5 := HE5.out.size
                clear hr0 hR5 hmd
                go_upto_region 18 with fail
                refine wp_region_line [(0,0),(1,1),(2,2),(3,3),(4,0)] (by kernel_rfl) (by kernel_rfl) (Ext w5) (fun _ _ h k => h.trans k) (Ext.refl _) ?_
                first
                  | refine Fx.skip rfl rfl (by simp only [List.set_cons_zero, List.set_cons_succ]; rfl) ?_
                  | (with_reducible refine Fx.lab0 ?_
                     first
                       | refine Fx.moveT rfl rfl rfl (by simp only [List.set_cons_zero, List.set_cons_succ]; rfl) ?_
                       | refine Fx.assignT rfl rfl rfl (by simp only [List.set_cons_zero, List.set_cons_succ]; rfl) ?_
                       | refine Fx.pure_ rfl rfl (fun _ => by go_simp; first | done | rfl) (by simp only [List.set_cons_zero, List.set_cons_succ]; rfl) ?_)
                  | (with_reducible refine Fx.lab1 ?_
                     refine Fx.look rfl rfl (fun w' hC => by obtain ⟨hc, hf, hl⟩ := Ext.cells hC; go_simp; rfl) (by simp only [List.set_cons_zero, List.set_cons_succ]; rfl) ?_)
                refine Fx.look rfl rfl (op_load_Ms' (m := m) dl d0 d1 d2 rfl) (by simp only [List.set_cons_zero, List.set_cons_succ]; rfl) ?_
                refine Fx.mkSl 1 1 (fun B w' => MsL w' (.slice (some ⟨B, 0, none⟩) 1 1) [m]) (fun B _ _ h k => h.ext k) rfl rfl (fun w' hC => stepAt_lit1 hC m rfl) (fun B2 => ?_)
                simp only [List.set_cons_zero, List.set_cons_succ]
                refine Fx.eff (fun v' w' => OwnMs w' v' (l ++ [m]) ∧ Mods (fun c => v.ownBlock = some c) w5 w' ∧ (∀ c, v'.ownBlock = some c → v.ownBlock = some c ∨ w5.heap.size ≤ c)) (fun v _ _ h k => ⟨h.1.ext k, h.2.1.then_ k, h.2.2⟩) rfl rfl
                  (fun w' hC => stepAt_append hC.1 (Hown5.out.ext hC.1) hC.2 (by have := hll.out; simp; omega) rfl rfl) (fun lv' => ?_)
                simp only [List.set_cons_zero, List.set_cons_succ]
                first
                  | refine Fx.skip rfl rfl (by simp only [List.set_cons_zero, List.set_cons_succ]; rfl) ?_
                  | (with_reducible refine Fx.lab0 ?_
                     first
                       | refine Fx.moveT rfl rfl rfl (by simp only [List.set_cons_zero, List.set_cons_succ]; rfl) ?_
                       | refine Fx.assignT rfl rfl rfl (by simp only [List.set_cons_zero, List.set_cons_succ]; rfl) ?_
                       | refine Fx.pure_ rfl rfl (fun _ => by go_simp; first | done | rfl) (by simp only [List.set_cons_zero, List.set_cons_succ]; rfl) ?_)
                  | (with_reducible refine Fx.lab1 ?_
                     refine Fx.look rfl rfl (fun w' hC => by obtain ⟨hc, hf, hl⟩ := Ext.cells hC; go_simp; rfl) (by simp only [List.set_cons_zero, List.set_cons_succ]; rfl) ?_)
                refine Fx.done (fun w6 hC => ?_)
                have HC := Lib.hid hC
                clear hC d0 d1 d2
                go_wp2
                go_roundw
                case rel =>
                  refine ⟨k + 1, p + 9 + n.toNat, l ++ [m], _, rfl, by go_num, by go_num, by omega, by omega, Lib.hid HC.out.1, ?_, ?_, ?_, Lib.hid (by rw [List.length_append, hll.out]; rfl)⟩
                  · exact Lib.hid (fun b hb => (HC.out.2.2 b hb).elim (hblk.out b) (fun h => Nat.le_trans HE5.out.size h))
                  · exact Lib.hid (((HE5.out.mods (fun c => v.ownBlock = some c)).trans HC.out.2.1 (fun _ _ h => h)).ext_of (fun x hx hs => by have := hblk.out x hs; omega))
                  · refine Lib.hid ?_
                    obtain ⟨j, hj⟩ : ∃ j, N - k = j + 1 := ⟨N - k - 1, by omega⟩
                    rw [hun.out, hj, unpF, HR5.out, show N - (k + 1) = j by omega]
                    simp only
                    rw [extract3 t p _ hp, Hmd.out, ← Nat.add_assoc]
                    simp
                    rfl
                case measure => simp [intOf]; omega
        · have hkN : N - k = 0 := by omega
          obtain ⟨A, cap, rfl, -⟩ := hown.out.val
          have hsz : (t.extract p t.size).size = t.size - p := by rw [ByteArray.size_extract]; omega
          by_cases hr0 : p = t.size
          · have hu : unp t = some l := by rw [hun.out, hkN, unpF, if_pos (by omega)]; simp
            have Hu2 := Lib.hid (unp_some hu)
            clear hu hsz
            go_wp2
            go_ret2
            exact ⟨_, by rw [Hu2.out.1]; rfl, by rw [Hu2.out.2]; exact hown.out.sl Ms.len, hE.out⟩
          · have hu : unp t = none := by rw [hun.out, hkN, unpF, if_neg (by omega)]; rfl
            have hr1 : ¬ (p : Int) = t.size := by omega
            have Hu2 := Lib.hid (unp_none hu)
            clear hu hsz
            go_wp2
            go_ret2
            exact ⟨_, by rw [Hu2.out.1]; rfl, by rw [Hu2.out.2]; exact msl_nil _, hE.out⟩
end Go.Proofs.Ytbjondnombnpbaa
