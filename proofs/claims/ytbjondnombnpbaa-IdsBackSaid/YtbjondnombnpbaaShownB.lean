/-
  rostrumlaw10.shown: it answers true.
-/
import Derived.Test.YtbjondnombnpbaaTake
namespace Go.Proofs.Ytbjondnombnpbaa
open Go.RowKit
attribute [local go_sem] Oper.semAt_some

def mTwo : Ms := ⟨3, 2, ⟨#[98]⟩⟩
def mOne : Ms := ⟨3, 1, ⟨#[97]⟩⟩
def bs1 : BSt := ⟨fun _ => 0, [], [((3, 2), mTwo)]⟩
theorem rowN_step {n : Nat} (hn : 0 < n) (wt : List ((Int × Int) × Ms)) (x : Ms) : rowN n wt x = x :: (match kfind (x.f, x.c + 1) wt with | none => [] | some y => rowN (n - 1) wt y) := by
  obtain ⟨k, rfl⟩ : ∃ k, n = k + 1 := ⟨n - 1, by omega⟩
  rfl
theorem takeX1 : takeS b0 mTwo = bs1 := by
  have h1 : rightB mTwo = true := by decide
  have h2 : isNext b0 mTwo = false := by decide
  have h3 : hasB b0 mTwo.f mTwo.c = false := by decide
  unfold takeS waitS; rw [h1, h2, h3]; rfl
theorem takeL1 : takeL b0 mTwo = [] := by
  have h2 : isNext b0 mTwo = false := by decide
  unfold takeL; rw [h2]; simp
theorem rowX : rowL bs1.wt mOne = [mOne, mTwo] := by
  unfold rowL
  rw [rowN_step (by decide)]
  have e1 : kfind (mOne.f, mOne.c + 1) bs1.wt = some mTwo := by decide
  rw [e1]
  simp only
  rw [rowN_step (by decide)]
  have e2 : kfind (mTwo.f, mTwo.c + 1) bs1.wt = none := by decide
  rw [e2]
theorem takeL2 : takeL bs1 mOne = [mOne, mTwo] := by
  have h1 : rightB mOne = true := by decide
  have h2 : isNext bs1 mOne = true := by decide
  unfold takeL; rw [h1, h2, rowX]; rfl
def bs2 : BSt := takeS bs1 mOne
theorem next2 : nextB bs2 3 = 3 := by
  have h1 : rightB mOne = true := by decide
  have h2 : isNext bs1 mOne = true := by decide
  unfold bs2 takeS; rw [if_pos h1, if_pos h2, rowX]
  decide
theorem take3 : takeS bs2 ms0 = bs2 := by
  have h1 : rightB ms0 = false := by decide
  unfold takeS; rw [h1]; rfl
theorem len2 : bs2.log.length + bs2.wt.length ≤ 1000000 := by
  have h := take_len (σ := bs1) (by have := take_ok b0_ok mTwo; rwa [takeX1] at this) mOne
  have : bs1.log.length + bs1.wt.length = 1 := rfl
  unfold bs2; omega
theorem bs1_ok : bs1.Ok := by have := take_ok b0_ok mTwo; rwa [takeX1] at this
theorem bs2_ok : bs2.Ok := take_ok bs1_ok mOne

theorem run_lit2 (m m2 : Ms) (w : World) {x x2 : Value} (hx : x = m.val) (hx2 : x2 = m2.val) : (Instr.buildSlice 22 2 #[(0, x), (1, x2)]).run Try.prog w = .ok (.slice (some ⟨w.heap.size, 0, none⟩) 2 2) (w.alloc (.cells #[.int .i64 m.f, .int .u32 m.c, .string m.d, .int .i64 m2.f, .int .u32 m2.c, .string m2.d] 34)) := by
  subst hx; subst hx2
  unfold Ms.val
  simp [go_sem, Try.zeroValue34, Try.sizeOf34, Instr.buildSlice, run_underlying Try.underlying22]
theorem stepAt_lit2 {a : Act} {d : Option Tmp} {t : TypeId} {s : String} {af : Array Edge} {g : Option (Nat × Bool)} {W w : World} {x x2 : Operand} (hC : Ext W w) (m m2 : Ms) (hx : a.eval x = m.val) (hx2 : a.eval x2 = m2.val) :
    stepAt Try.prog ⟨d, .buildSlice 22 2 #[(0, x), (1, x2)], t, s, af, g⟩ a w (fun u w' => ∃ b, u = .slice (some ⟨b, 0, none⟩) 2 2 ∧ Ext w w' ∧ MsL w' (.slice (some ⟨b, 0, none⟩) 2 2) [m, m2]) := by
  unfold stepAt
  simp only [execOp, Sem.run_bind, List.map_toArray, List.map_cons, List.map_nil, run_lit2 m m2 w hx hx2, Result.andThen_ok]
  exact ⟨_, rfl, Ext.alloc _ _, (Own.lit (enc := Ms.enc) Ms.len w [m, m2] (by unfold maxLen; simp) (by simp) (cs := m.enc ++ m2.enc) (by simp)).sl Ms.len⟩

set_option maxRecDepth 100000 in
set_option maxHeartbeats 1600000 in
theorem shown_at (w : World) : Calls Try.prog 10 #[] w fun e w' => e = .returned (.bool true) ∧ Ext w w' := by
  go_enter Try.func10, Try.ntmps10
  go_upto_region 2 with (go_at_call 12; refine (new_at _).mono ?_; rintro e w1 ⟨b, mb, rfl, hM, hE, hb, hmb⟩; have HM := Lib.hid hM; have HE := Lib.hid hE; have Hb := Lib.hid hb; have Hmb := Lib.hid hmb; clear hM hE hb hmb)
  refine wp_region_line [(0,0),(1,0),(2,2),(3,3)] (by kernel_rfl) (by kernel_rfl) (Ext w1) (fun _ _ h k => h.trans k) (Ext.refl _) ?_
  iterate 2
    first
      | refine Fx.skip rfl rfl (by simp only [List.set_cons_zero, List.set_cons_succ]; rfl) ?_
      | (with_reducible refine Fx.lab0 ?_
         first
           | refine Fx.moveT rfl rfl rfl (by simp only [List.set_cons_zero, List.set_cons_succ]; rfl) ?_
           | refine Fx.assignT rfl rfl rfl (by simp only [List.set_cons_zero, List.set_cons_succ]; rfl) ?_
           | refine Fx.pure_ rfl rfl (fun _ => by go_simp; first | done | rfl) (by simp only [List.set_cons_zero, List.set_cons_succ]; rfl) ?_)
      | (with_reducible refine Fx.lab1 ?_
         refine Fx.look rfl rfl (fun w' hC => by obtain ⟨hc, hf, hl⟩ := Ext.cells hC; go_simp; rfl) (by simp only [List.set_cons_zero, List.set_cons_succ]; rfl) ?_)
  refine Fx.mkPtr (fun B w' => w1.heap.size ≤ B ∧ Obj_ w' B 3 (msF ms0)) (fun B _ _ h k => ⟨h.1, h.2.ext k⟩) rfl rfl (fun w' hC => stepAt_alloc_Ms hC) (fun B2 => ?_)
  simp only [List.set_cons_zero, List.set_cons_succ]
  refine Fx.eff0 (MsPre w1 B2 mTwo) (msPre_stable _ _ _) rfl rfl (fun w' hC => stepAt_mono (stepAt_store_Ms hC.1 hC.2.1 hC.2.2 mTwo rfl rfl) (fun _ w'' h => ⟨h.1, hC.2.1, h.2⟩)) ?_
  refine Fx.done (fun w2 hC => ?_)
  obtain ⟨e2, hB2, o2⟩ := hC
  have E2 := Lib.hid e2
  have O2 := Lib.hid o2
  have HB2 := Lib.hid hB2
  clear e2 hB2 o2
  go_upto_region 3 with fail
  refine wp_region_line [(0,0),(1,0),(2,2),(3,3)] (by kernel_rfl) (by kernel_rfl) (Ext w2) (fun _ _ h k => h.trans k) (Ext.refl _) ?_
  iterate 2
    first
      | refine Fx.skip rfl rfl (by simp only [List.set_cons_zero, List.set_cons_succ]; rfl) ?_
      | (with_reducible refine Fx.lab0 ?_
         first
           | refine Fx.moveT rfl rfl rfl (by simp only [List.set_cons_zero, List.set_cons_succ]; rfl) ?_
           | refine Fx.assignT rfl rfl rfl (by simp only [List.set_cons_zero, List.set_cons_succ]; rfl) ?_
           | refine Fx.pure_ rfl rfl (fun _ => by go_simp; first | done | rfl) (by simp only [List.set_cons_zero, List.set_cons_succ]; rfl) ?_)
      | (with_reducible refine Fx.lab1 ?_
         refine Fx.look rfl rfl (fun w' hC => by obtain ⟨hc, hf, hl⟩ := Ext.cells hC; go_simp; rfl) (by simp only [List.set_cons_zero, List.set_cons_succ]; rfl) ?_)
  refine Fx.mkPtr (fun B w' => w2.heap.size ≤ B ∧ Obj_ w' B 3 (msF ms0)) (fun B _ _ h k => ⟨h.1, h.2.ext k⟩) rfl rfl (fun w' hC => stepAt_alloc_Ms hC) (fun B3 => ?_)
  simp only [List.set_cons_zero, List.set_cons_succ]
  refine Fx.eff0 (MsPre w2 B3 mOne) (msPre_stable _ _ _) rfl rfl (fun w' hC => stepAt_mono (stepAt_store_Ms hC.1 hC.2.1 hC.2.2 mOne rfl rfl) (fun _ w'' h => ⟨h.1, hC.2.1, h.2⟩)) ?_
  refine Fx.done (fun w3 hC => ?_)
  obtain ⟨e3, hB3, o3⟩ := hC
  have HM3 := Lib.hid (HM.out.ext (E2.out.trans e3))
  have HE3 := Lib.hid (HE.out.trans (E2.out.trans e3))
  have O2' := Lib.hid (O2.out.ext e3)
  have O3 := Lib.hid o3
  have HS1 := Lib.hid HE.out.size
  have hb1 := HM.out.lt (x := b) (.inl rfl)
  have hb2 := HM.out.lt (x := mb) (.inr (.inl rfl))
  have s12 := E2.out.size
  have s23 := e3.size
  have hB2' := HB2.out
  have hB3' := hB3
  obtain ⟨d0, d1, d2⟩ := O2'.out.ms
  obtain ⟨f0, f1, f2⟩ := o3.ms
  have l2 := O2'.out.lt
  have l3 := o3.lt
  clear e3 hB3 o3
  have c1 : (if rightB mTwo = true then (0 : Int) else 100) = 0 := by decide
  have c2 : (if rightB mOne = true then (0 : Int) else 100) = 0 := by decide
  have c3 : (if rightB ms0 = true then (0 : Int) else 100) = 100 := by decide
  have C1 := Lib.hid c1
  have C2 := Lib.hid c2
  have C3 := Lib.hid c3
  have Hb' := Hb.out
  have Hmb' := Hmb.out
  clear c1 c2 c3
  go_upto_region 5 with (go_at_call 13; refine (take_at HM3.out b0_ok (by decide) mTwo).mono ?_; rintro e w4 ⟨nv, lv, he, hM4, hN4, hm4, hl4, hn4⟩; rw [C1.out] at he; subst he; rw [takeX1] at hM4; rw [takeL1] at hN4; obtain ⟨nA, ncap, rfl, -⟩ := hN4.val; have HM4 := Lib.hid hM4; have Hm4 := Lib.hid hm4; have Hl4 := Lib.hid hl4; clear hM4 hN4 hm4 hl4 hn4)
  have n1 : ∀ x, w1.heap.size ≤ x → x < w3.heap.size → ¬ FB b mb (.slice none 0 0) x := fun x h1 h2 h => by
    rcases h with h | h | h
    · omega
    · omega
    · simp [Value.ownBlock] at h
  obtain ⟨xc, xf, xl⟩ := Hm4.out.cells
  replace d0 := (xc _ _ l2 (n1 _ (by omega) (by omega))).trans d0
  replace d1 := (xc _ _ l2 (n1 _ (by omega) (by omega))).trans d1
  replace d2 := (xc _ _ l2 (n1 _ (by omega) (by omega))).trans d2
  replace f0 := (xc _ _ l3 (n1 _ (by omega) (by omega))).trans f0
  replace f1 := (xc _ _ l3 (n1 _ (by omega) (by omega))).trans f1
  replace f2 := (xc _ _ l3 (n1 _ (by omega) (by omega))).trans f2
  have s34 := Hm4.out.size
  have hl4 : ∀ y, lv.ownBlock = some y → w3.heap.size ≤ y := fun y hy => (Hl4.out y hy).elim (fun h => by simp [Value.ownBlock] at h) id
  have HL4 := Lib.hid hl4
  have hl2' := xl _ l2
  have hl3' := xl _ l3
  clear xc xf xl n1 hl4
  go_upto_region 6 with (go_at_call 13; refine (take_at HM4.out bs1_ok (by decide) mOne).mono ?_; rintro e w5 ⟨nv2, lv2, he, hM5, hN5, hm5, hl5, hn5⟩; rw [C2.out] at he; subst he; rw [takeL2] at hN5; have HM5 := Lib.hid hM5; have HN5 := Lib.hid hN5; have Hm5 := Lib.hid hm5; have Hl5 := Lib.hid hl5; have Hn5 := Lib.hid hn5; clear hM5 hN5 hm5 hl5 hn5)
  have n1 : ∀ x, w1.heap.size ≤ x → x < w3.heap.size → ¬ FB b mb lv x := fun x h1 h2 h => by
    rcases h with h | h | h
    · omega
    · omega
    · have := HL4.out x h; omega
  obtain ⟨xc, xf, xl⟩ := Hm5.out.cells
  replace d0 := (xc _ _ hl2' (n1 _ (by omega) (by omega))).trans d0
  replace d1 := (xc _ _ hl2' (n1 _ (by omega) (by omega))).trans d1
  replace d2 := (xc _ _ hl2' (n1 _ (by omega) (by omega))).trans d2
  replace f0 := (xc _ _ hl3' (n1 _ (by omega) (by omega))).trans f0
  replace f1 := (xc _ _ hl3' (n1 _ (by omega) (by omega))).trans f1
  replace f2 := (xc _ _ hl3' (n1 _ (by omega) (by omega))).trans f2
  have s45 := Hm5.out.size
  have hl5 : ∀ y, lv2.ownBlock = some y → w3.heap.size ≤ y := fun y hy => (Hl5.out y hy).elim (HL4.out y) (fun h => by omega)
  have HL5 := Lib.hid hl5
  have hl2'' := xl _ hl2'
  have hl3'' := xl _ hl3'
  clear xc xf xl n1 hl5
  go_upto_region 7 with (go_at_call 13; refine (take_at HM5.out bs2_ok len2 ms0).mono ?_; rintro e w6 ⟨nv3, lv3, he, hM6, hN6, hm6, hl6, hn6⟩; rw [C3.out] at he; subst he; rw [show takeS (takeS bs1 mOne) ms0 = bs2 from take3] at hM6; have HM6 := Lib.hid hM6; have Hm6 := Lib.hid hm6; clear hM6 hN6 hm6 hl6 hn6)
  have n1 : ∀ x, w1.heap.size ≤ x → x < w3.heap.size → ¬ FB b mb lv2 x := fun x h1 h2 h => by
    rcases h with h | h | h
    · omega
    · omega
    · have := HL5.out x h; omega
  obtain ⟨xc, xf, xl⟩ := Hm6.out.cells
  replace d0 := (xc _ _ hl2'' (n1 _ (by omega) (by omega))).trans d0
  replace d1 := (xc _ _ hl2'' (n1 _ (by omega) (by omega))).trans d1
  replace d2 := (xc _ _ hl2'' (n1 _ (by omega) (by omega))).trans d2
  replace f0 := (xc _ _ hl3'' (n1 _ (by omega) (by omega))).trans f0
  replace f1 := (xc _ _ hl3'' (n1 _ (by omega) (by omega))).trans f1
  replace f2 := (xc _ _ hl3'' (n1 _ (by omega) (by omega))).trans f2
  have k2 := xl _ hl2''
  have k3 := xl _ hl3''
  have HN6 := Lib.hid (HN5.out.mods Hm6.out (fun y hy h => by
    obtain ⟨q1, q2, q3, q4⟩ := Hn5.out y hy
    rcases h with h | h | h
    · exact q2 h
    · exact q3 h
    · exact q4 h))
  have e36 : Mods (fun x => w.heap.size ≤ x) w3 w6 := ((Hm4.out.mono (T := fun x => w.heap.size ≤ x) (fun x _ h => by
      rcases h with h | h | h
      · omega
      · omega
      · simp [Value.ownBlock] at h)).trans Hm5.out (fun x _ h => by
      rcases h with h | h | h
      · omega
      · omega
      · have := HL4.out x h; have := HS1.out; omega)).trans Hm6.out (fun x _ h => by
      rcases h with h | h | h
      · omega
      · omega
      · have := HL5.out x h; have := HS1.out; omega)
  have HE6 := Lib.hid ((((HE3.out.mods (fun x => w.heap.size ≤ x)).trans e36 (fun _ _ h => h)).ext_of (fun x hx h => by omega)))
  have SB := Lib.hid (show sameB [mOne, mTwo] [mOne, mTwo] = true by decide)
  clear xc xf xl n1 e36 l2 l3 hl2' hl3' hl2'' hl3''
  refine wp_region_line [(0,0),(1,0),(2,0),(3,0),(4,0),(5,0),(6,0),(7,0),(8,0),(9,0),(10,0),(11,0),(12,0),(13,0),(14,0),(15,0),(16,0),(17,1),(18,1),(19,2),(20,1),(21,0),(22,0),(23,0),(24,1),(25,0),(26,0),(27,0)] (by kernel_rfl) (by kernel_rfl) (Ext w6) (fun _ _ h k => h.trans k) (Ext.refl _) ?_
  iterate 17
    first
      | refine Fx.skip rfl rfl (by simp only [List.set_cons_zero, List.set_cons_succ]; rfl) ?_
      | (with_reducible refine Fx.lab0 ?_
         first
           | refine Fx.moveT rfl rfl rfl (by simp only [List.set_cons_zero, List.set_cons_succ]; rfl) ?_
           | refine Fx.assignT rfl rfl rfl (by simp only [List.set_cons_zero, List.set_cons_succ]; rfl) ?_
           | refine Fx.pure_ rfl rfl (fun _ => by go_simp; first | done | rfl) (by simp only [List.set_cons_zero, List.set_cons_succ]; rfl) ?_)
      | (with_reducible refine Fx.lab1 ?_
         refine Fx.look rfl rfl (fun w' hC => by obtain ⟨hc, hf, hl⟩ := Ext.cells hC; go_simp; rfl) (by simp only [List.set_cons_zero, List.set_cons_succ]; rfl) ?_)
  refine Fx.look rfl rfl (op_load_Ms' (m := mOne) k3 f0 f1 f2 rfl) (by simp only [List.set_cons_zero, List.set_cons_succ]; rfl) ?_
  refine Fx.look rfl rfl (op_load_Ms' (m := mTwo) k2 d0 d1 d2 rfl) (by simp only [List.set_cons_zero, List.set_cons_succ]; rfl) ?_
  refine Fx.mkSl 2 2 (fun B w' => MsL w' (.slice (some ⟨B, 0, none⟩) 2 2) [mOne, mTwo]) (fun B _ _ h k => h.ext k) rfl rfl (fun w' hC => stepAt_lit2 hC mOne mTwo rfl rfl) (fun B => ?_)
  simp only [List.set_cons_zero, List.set_cons_succ]
  refine Fx.call1 (v := .bool true) (args := #[nv2, .slice (some ⟨B, 0, none⟩) 2 2]) rfl rfl (fun _ => by first | (go_simp; done) | (go_simp; rfl)) (fun w' hC => (same_ref _ _ _ _ w' (HN6.out.ext hC.1) hC.2 (by decide)).mono (fun e w'' hh => by rw [SB.out] at hh; exact hh)) (by simp only [List.set_cons_zero, List.set_cons_succ]; rfl) ?_
  iterate 3
    first
      | refine Fx.skip rfl rfl (by simp only [List.set_cons_zero, List.set_cons_succ]; rfl) ?_
      | (with_reducible refine Fx.lab0 ?_
         first
           | refine Fx.moveT rfl rfl rfl (by simp only [List.set_cons_zero, List.set_cons_succ]; rfl) ?_
           | refine Fx.assignT rfl rfl rfl (by simp only [List.set_cons_zero, List.set_cons_succ]; rfl) ?_
           | refine Fx.pure_ rfl rfl (fun _ => by go_simp; first | done | rfl) (by simp only [List.set_cons_zero, List.set_cons_succ]; rfl) ?_)
      | (with_reducible refine Fx.lab1 ?_
         refine Fx.look rfl rfl (fun w' hC => by obtain ⟨hc, hf, hl⟩ := Ext.cells hC; go_simp; rfl) (by simp only [List.set_cons_zero, List.set_cons_succ]; rfl) ?_)
  refine Fx.call1 (v := .int .u32 3) (args := #[.pointer (some ⟨b, 0, none⟩), .int .i64 3]) rfl rfl (fun _ => by first | (go_simp; done) | (go_simp; rfl)) (fun w' hC => (next_at (HM6.out.ext hC.1) bs2_ok 3).mono (fun e w'' hh => by rw [next2] at hh; exact ⟨hh.1, by rw [hh.2]; exact Ext.refl _⟩)) (by simp only [List.set_cons_zero, List.set_cons_succ]; rfl) ?_
  iterate 3
    first
      | refine Fx.skip rfl rfl (by simp only [List.set_cons_zero, List.set_cons_succ]; rfl) ?_
      | (with_reducible refine Fx.lab0 ?_
         first
           | refine Fx.moveT rfl rfl rfl (by simp only [List.set_cons_zero, List.set_cons_succ]; rfl) ?_
           | refine Fx.assignT rfl rfl rfl (by simp only [List.set_cons_zero, List.set_cons_succ]; rfl) ?_
           | refine Fx.pure_ rfl rfl (fun _ => by go_simp; first | done | rfl) (by simp only [List.set_cons_zero, List.set_cons_succ]; rfl) ?_)
      | (with_reducible refine Fx.lab1 ?_
         refine Fx.look rfl rfl (fun w' hC => by obtain ⟨hc, hf, hl⟩ := Ext.cells hC; go_simp; rfl) (by simp only [List.set_cons_zero, List.set_cons_succ]; rfl) ?_)
  refine Fx.done (fun w7 hC => ?_)
  have HC := Lib.hid hC.1
  clear hC d0 d1 d2 f0 f1 f2
  go_wp2
  go_ret
  exact ⟨rfl, HE6.out.trans HC.out⟩
end Go.Proofs.Ytbjondnombnpbaa
