/-
  rostrumlaw12.shown: it answers true.
-/
import Derived.Test.YtkkcdoajdhbofaaFew
import Derived.Test.YtkkcdoajdhbofaaBatch
namespace Go.Proofs.Ytkkcdoajdhbofaa
open Go.RowKit
attribute [local go_sem] Oper.semAt_some

def q1 : PSt := ⟨[((2, 1), mMsg 2 1)], []⟩
def q2 : PSt := ⟨[((2, 1), mMsg 2 1), ((1, 2), mMsg 1 2)], []⟩
def q3 : PSt := ⟨[((2, 1), mMsg 2 1), ((1, 2), mMsg 1 2), ((1, 1), mMsg 1 1)], []⟩
def q4 : PSt := ⟨[((2, 1), mMsg 2 1)], [((1, 1), ()), ((1, 2), ())]⟩
theorem e1 : addS p0 (mMsg 2 1) = q1 := by kernel_rfl
theorem e2 : addS q1 (mMsg 1 2) = q2 := by kernel_rfl
theorem e3 : addS q2 (mMsg 1 1) = q3 := by kernel_rfl
theorem f1 : addE p0 (mMsg 2 1) = 0 := by kernel_rfl
theorem f2 : addE q1 (mMsg 1 2) = 0 := by kernel_rfl
theorem f3 : addE q2 (mMsg 1 1) = 0 := by kernel_rfl
theorem e4 : batchL q3 2 = [mMsg 1 1, mMsg 1 2] := by kernel_rfl
theorem e5 : doneS q3 [mMsg 1 1, mMsg 1 2] = q4 := by kernel_rfl
theorem e6 : doneA q3 [mMsg 1 1, mMsg 1 2] = [mMsg 1 1, mMsg 1 2] := by kernel_rfl
theorem e7 : doneE [mMsg 1 1, mMsg 1 2] = 0 := by kernel_rfl
theorem e8 : isB q4 (1, 2) = true := by kernel_rfl
theorem e9 : pend q4 = [mMsg 2 1] := by kernel_rfl
theorem q1_ok : q1.Ok := by rw [← e1]; exact add_ok p0_ok _
theorem q2_ok : q2.Ok := by rw [← e2]; exact add_ok q1_ok _
theorem q3_ok : q3.Ok := by rw [← e3]; exact add_ok q2_ok _
theorem q4_ok : q4.Ok := by rw [← e5]; exact doneS_ok q3_ok _
theorem run_lit2 (m m2 : Ms) (w : World) {x x2 : Value} (hx : x = m.val) (hx2 : x2 = m2.val) : (Instr.buildSlice 30 2 #[(0, x), (1, x2)]).run Try.prog w = .ok (.slice (some ⟨w.heap.size, 0, none⟩) 2 2) (w.alloc (.cells #[.int .i64 m.f, .int .u32 m.c, .string m.d, .int .i64 m2.f, .int .u32 m2.c, .string m2.d] 41)) := by
  subst hx; subst hx2
  unfold Ms.val
  simp [go_sem, Try.zeroValue41, Try.sizeOf41, Instr.buildSlice, run_underlying Try.underlying30]
theorem stepAt_lit2 {a : Act} {d : Option Tmp} {t : TypeId} {s : String} {af : Array Edge} {g : Option (Nat × Bool)} {W w : World} {x x2 : Operand} (hC : Ext W w) (m m2 : Ms) (hx : a.eval x = m.val) (hx2 : a.eval x2 = m2.val) :
    stepAt Try.prog ⟨d, .buildSlice 30 2 #[(0, x), (1, x2)], t, s, af, g⟩ a w (fun u w' => ∃ b, u = .slice (some ⟨b, 0, none⟩) 2 2 ∧ Ext w w' ∧ MsL w' (.slice (some ⟨b, 0, none⟩) 2 2) [m, m2]) := by
  unfold stepAt
  simp only [execOp, Sem.run_bind, List.map_toArray, List.map_cons, List.map_nil, run_lit2 m m2 w hx hx2, Result.andThen_ok]
  exact ⟨_, rfl, Ext.alloc _ _, (Own.lit (enc := Ms.enc) Ms.len w [m, m2] (by unfold maxLen; simp) (by simp) (cs := m.enc ++ m2.enc) (by simp)).sl Ms.len⟩

/-- A pool of the call's own. -/
structure PoolI (w2 : World) (b mw md : Nat) (σ : PSt) (w : World) : Prop where
  p : PoolAt w b mw md σ
  ok : σ.Ok
  fr : ∀ x, FP b mw md x → w2.heap.size ≤ x
  e : Ext w2 w
theorem PoolI.ext' {w2 w w' : World} {b mw md : Nat} {σ : PSt} (h : PoolI w2 b mw md σ w) (he : Ext w w') : PoolI w2 b mw md σ w' := ⟨h.p.ext he, h.ok, h.fr, h.e.trans he⟩
theorem PoolI.step {w2 w w' : World} {b mw md : Nat} {σ σ' : PSt} (h : PoolI w2 b mw md σ w) (hp : PoolAt w' b mw md σ') (ho : σ'.Ok) (hm : Mods (FP b mw md) w w') : PoolI w2 b mw md σ' w' :=
  ⟨hp, ho, h.fr, ((h.e.mods _).trans hm (fun _ _ h => h)).ext_of (fun x hx e => by have := h.fr x e; omega)⟩
theorem PoolI.new {w2 w : World} {b mw md : Nat} (hp : PoolAt w b mw md p0) (he : Ext w2 w) (hf : ∀ x, FP b mw md x → w2.heap.size ≤ x) : PoolI w2 b mw md p0 w := ⟨hp, p0_ok, hf, he⟩

set_option maxRecDepth 100000 in
set_option maxHeartbeats 1600000 in
theorem shown_at (w : World) : Calls Try.prog 10 #[] w fun e w' => e = .returned (.bool true) ∧ Ext w w' := by
  go_enter Try.func10, Try.ntmps10
  go_upto_region 2 with (go_at_call 11; refine (new_at _).mono ?_; rintro e w1 ⟨b, mw, md, rfl, hM, hE, hf⟩; have HI := Lib.hid (PoolI.new hM hE hf); clear hM hE hf)
  go_upto_region 3 with (first
    | (go_at_call 25; refine (msg_at _ _ _).mono ?_; rintro e wA ⟨rfl, hA⟩; have HIA := Lib.hid (HI.out.ext' hA); clear hA)
    | (go_at_call 13; refine (add_at HIA.out.p HIA.out.ok.len (mMsg 2 1)).mono ?_; rintro e w2 ⟨rfl, h1, h2⟩; rw [f1]; have HI2 := Lib.hid (HIA.out.step h1 (add_ok HIA.out.ok _) h2); rw [e1] at HI2; clear h1 h2))
  go_upto_region 4 with (first
    | (go_at_call 25; refine (msg_at _ _ _).mono ?_; rintro e wB ⟨rfl, hA⟩; have HIB := Lib.hid (HI2.out.ext' hA); clear hA)
    | (go_at_call 13; refine (add_at HIB.out.p HIB.out.ok.len (mMsg 1 2)).mono ?_; rintro e w3 ⟨rfl, h1, h2⟩; rw [f2]; have HI3 := Lib.hid (HIB.out.step h1 (add_ok HIB.out.ok _) h2); rw [e2] at HI3; clear h1 h2))
  go_upto_region 5 with (first
    | (go_at_call 25; refine (msg_at _ _ _).mono ?_; rintro e wC ⟨rfl, hA⟩; have HIC := Lib.hid (HI3.out.ext' hA); clear hA)
    | (go_at_call 13; refine (add_at HIC.out.p HIC.out.ok.len (mMsg 1 1)).mono ?_; rintro e w4 ⟨rfl, h1, h2⟩; rw [f3]; have HI4 := Lib.hid (HIC.out.step h1 (add_ok HIC.out.ok _) h2); rw [e3] at HI4; clear h1 h2))
  go_upto_region 6 with (go_at_call 15; refine (batch_at HI4.out.p HI4.out.ok 2).mono ?_; rintro e w5 ⟨nv, rfl, h1, h2, h3⟩; rw [e4] at h1; have HN := Lib.hid h1; have HI5 := Lib.hid (HI4.out.ext' h2); have HNb := Lib.hid h3; have HE45 := Lib.hid h2; clear h1 h2 h3)
  rw [show batchE 2 = 0 from rfl]
  have hnb : ∀ x, nv.ownBlock = some x → ¬ FP b mw md x := fun x hx h => by have := HNb.out x hx; have := HI4.out.p.lt h; omega
  have HNo := Lib.hid hnb
  clear hnb
  go_upto_region 7 with (go_at_call 18; refine (done_at HI5.out.p nv [mMsg 1 1, mMsg 1 2] (HN.out.sl Ms.len) (by decide) HNo.out).mono ?_; rintro e w6 ⟨mv, rfl, h1, h2, h3, h4⟩; rw [e6] at h2; have HI6 := Lib.hid (HI5.out.step h1 (doneS_ok HI5.out.ok _) h3); rw [e5] at HI6; have HN6 := Lib.hid (HN.out.mods h3 HNo.out); obtain ⟨mA, mcap, rfl, -⟩ := h2.val; clear h1 h2 h3 h4)
  rw [e7]
  go_upto_region 8 with (go_at_call 15; refine (batch_at HI6.out.p HI6.out.ok 0).mono ?_; rintro e w7 ⟨nv2, rfl, h1, h2, h3⟩; have HI7 := Lib.hid (HI6.out.ext' h2); have HN7 := Lib.hid (HN6.out.ext h2); clear h1 h2 h3)
  rw [show batchE 0 = 2 from rfl]
  have SB := Lib.hid (show sameB [mMsg 1 1, mMsg 1 2] [mMsg 1 1, mMsg 1 2] = true by simp [sameB])
  refine wp_region_line [(0,0),(1,0),(2,0),(3,0),(4,0),(5,0),(6,0),(7,0),(8,0),(9,0),(10,0),(11,0),(12,0),(13,0),(14,0),(15,0),(16,0),(17,0),(18,0),(19,0),(20,0),(21,0),(22,0),(23,0),(24,1),(25,1),(26,2),(27,1),(28,0),(29,0),(30,0),(31,0),(32,0),(33,0),(34,0),(35,0),(36,0),(37,1),(38,0),(39,0),(40,0),(41,2),(42,0),(43,0),(44,0),(45,0)] (by kernel_rfl) (by kernel_rfl) (Ext w7) (fun _ _ h k => h.trans k) (Ext.refl _) ?_
  iterate 24
    first
      | refine Fx.skip rfl rfl (by simp only [List.set_cons_zero, List.set_cons_succ]; rfl) ?_
      | (with_reducible refine Fx.lab0 ?_
         first
           | refine Fx.moveT rfl rfl rfl (by simp only [List.set_cons_zero, List.set_cons_succ]; rfl) ?_
           | refine Fx.assignT rfl rfl rfl (by simp only [List.set_cons_zero, List.set_cons_succ]; rfl) ?_
           | refine Fx.pure_ rfl rfl (fun _ => by go_simp; first | done | rfl) (by simp only [List.set_cons_zero, List.set_cons_succ]; rfl) ?_)
      | (with_reducible refine Fx.lab1 ?_
         refine Fx.look rfl rfl (fun w' hC => by obtain ⟨hc, hf, hl⟩ := Ext.cells hC; go_simp; rfl) (by simp only [List.set_cons_zero, List.set_cons_succ]; rfl) ?_)
  refine Fx.call1 (v := (mMsg 1 1).val) (args := #[.int .i64 1, .int .u32 1]) rfl rfl (fun _ => by first | (go_simp; done) | (go_simp; rfl)) (fun w' hC => msg_at 1 1 w') (by simp only [List.set_cons_zero, List.set_cons_succ]; rfl) ?_
  refine Fx.call1 (v := (mMsg 1 2).val) (args := #[.int .i64 1, .int .u32 2]) rfl rfl (fun _ => by first | (go_simp; done) | (go_simp; rfl)) (fun w' hC => msg_at 1 2 w') (by simp only [List.set_cons_zero, List.set_cons_succ]; rfl) ?_
  refine Fx.mkSl 2 2 (fun B w' => MsL w' (.slice (some ⟨B, 0, none⟩) 2 2) [mMsg 1 1, mMsg 1 2]) (fun B _ _ h k => h.ext k) rfl rfl (fun w' hC => stepAt_lit2 hC (mMsg 1 1) (mMsg 1 2) rfl rfl) (fun B => ?_)
  simp only [List.set_cons_zero, List.set_cons_succ]
  refine Fx.call1 (v := .bool true) (args := #[nv, .slice (some ⟨B, 0, none⟩) 2 2]) rfl rfl (fun _ => by first | (go_simp; done) | (go_simp; rfl)) (fun w' hC => (same_ref _ _ _ _ w' ((HN7.out.ext hC.1).sl Ms.len) hC.2 (by decide)).mono (fun e w'' hh => by rw [SB.out] at hh; exact hh)) (by simp only [List.set_cons_zero, List.set_cons_succ]; rfl) ?_
  iterate 9
    first
      | refine Fx.skip rfl rfl (by simp only [List.set_cons_zero, List.set_cons_succ]; rfl) ?_
      | (with_reducible refine Fx.lab0 ?_
         first
           | refine Fx.moveT rfl rfl rfl (by simp only [List.set_cons_zero, List.set_cons_succ]; rfl) ?_
           | refine Fx.assignT rfl rfl rfl (by simp only [List.set_cons_zero, List.set_cons_succ]; rfl) ?_
           | refine Fx.pure_ rfl rfl (fun _ => by go_simp; first | done | rfl) (by simp only [List.set_cons_zero, List.set_cons_succ]; rfl) ?_)
      | (with_reducible refine Fx.lab1 ?_
         refine Fx.look rfl rfl (fun w' hC => by obtain ⟨hc, hf, hl⟩ := Ext.cells hC; go_simp; rfl) (by simp only [List.set_cons_zero, List.set_cons_succ]; rfl) ?_)
  refine Fx.call1 (v := .bool true) (args := #[.pointer (some ⟨b, 0, none⟩), .agg #[.int .i64 1, .int .u32 2]]) rfl rfl (fun _ => by first | (go_simp; done) | (go_simp; rfl)) (fun w' hC => (is_at (HI7.out.p.ext hC.1) 1 2).mono (fun e w'' hh => by rw [e8] at hh; exact hh)) (by simp only [List.set_cons_zero, List.set_cons_succ]; rfl) ?_
  iterate 3
    first
      | refine Fx.skip rfl rfl (by simp only [List.set_cons_zero, List.set_cons_succ]; rfl) ?_
      | (with_reducible refine Fx.lab0 ?_
         first
           | refine Fx.moveT rfl rfl rfl (by simp only [List.set_cons_zero, List.set_cons_succ]; rfl) ?_
           | refine Fx.assignT rfl rfl rfl (by simp only [List.set_cons_zero, List.set_cons_succ]; rfl) ?_
           | refine Fx.pure_ rfl rfl (fun _ => by go_simp; first | done | rfl) (by simp only [List.set_cons_zero, List.set_cons_succ]; rfl) ?_)
      | (with_reducible refine Fx.lab1 ?_
         refine Fx.look rfl rfl (fun w' hC => by obtain ⟨hc, hf, hl⟩ := Ext.cells hC; go_simp; rfl) (by simp only [List.set_cons_zero, List.set_cons_succ]; rfl) ?_)
  refine Fx.mkBy (fun x : Option Addr × Nat => .slice x.1 1 x.2) (fun _ _ => True) (fun _ _ _ h _ => h) rfl rfl (fun w' hC => ?_) (fun x => ?_)
  · unfold stepAt
    rw [show (execOp _ _).run Try.prog w' = .ok (.enter 20 #[.pointer (some ⟨b, 0, none⟩)]) w' from by first | (go_simp; done) | (go_simp; rfl)]
    exact (pend_at (HI7.out.p.ext hC.1) q4_ok).mono (fun e w'' hh => by
      obtain ⟨v', rfl, h1, h2, h3⟩ := hh
      rw [e9] at h1
      obtain ⟨A', c', rfl, -⟩ := h1.val
      exact ⟨_, rfl, (A', c'), rfl, h2, trivial⟩)
  simp only [List.set_cons_zero, List.set_cons_succ]
  iterate 4
    first
      | refine Fx.skip rfl rfl (by simp only [List.set_cons_zero, List.set_cons_succ]; rfl) ?_
      | (with_reducible refine Fx.lab0 ?_
         first
           | refine Fx.moveT rfl rfl rfl (by simp only [List.set_cons_zero, List.set_cons_succ]; rfl) ?_
           | refine Fx.assignT rfl rfl rfl (by simp only [List.set_cons_zero, List.set_cons_succ]; rfl) ?_
           | refine Fx.pure_ rfl rfl (fun _ => by go_simp; first | done | rfl) (by simp only [List.set_cons_zero, List.set_cons_succ]; rfl) ?_)
      | (with_reducible refine Fx.lab1 ?_
         refine Fx.look rfl rfl (fun w' hC => by obtain ⟨hc, hf, hl⟩ := Ext.cells hC; go_simp; rfl) (by simp only [List.set_cons_zero, List.set_cons_succ]; rfl) ?_)
  refine Fx.done (fun w8 hC => ?_)
  have HC := Lib.hid hC.1.1
  clear hC
  go_wp2
  go_ret
  exact ⟨rfl, HI7.out.e.trans HC.out⟩
end Go.Proofs.Ytkkcdoajdhbofaa
