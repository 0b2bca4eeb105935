/-
  sequence.Follower: Marks.
-/
import Derived.Test.YtokljdkeegdniaaClear
namespace Go.Proofs.Ytokljdkeegdniaa
open Go.RowKit
attribute [local go_sem] Oper.semAt_some

def uE (x : Int) : List Value := [.int .u32 x]
theorem uE_len (x : Int) : (uE x).length = 1 := rfl
abbrev UL (w : World) (v : Value) (l : List Int) : Prop := Sl uE 1 w v l
theorem run_lit4U (x y z u : Int) (w : World) : (Instr.buildSlice 47 4 #[(0, .int .u32 x), (1, .int .u32 y), (2, .int .u32 z), (3, .int .u32 u)]).run Try.prog w = .ok (.slice (some ⟨w.heap.size, 0, none⟩) 4 4) (w.alloc (.cells #[.int .u32 x, .int .u32 y, .int .u32 z, .int .u32 u] 22)) := by
  simp [go_sem, Try.zeroValue22, Try.sizeOf22, Instr.buildSlice, run_underlying Try.underlying47]
theorem stepAt_lit4U {a : Act} {d : Option Tmp} {t : TypeId} {s : String} {af : Array Edge} {g : Option (Nat × Bool)} {W w : World} {p q r o : Operand} {x y z u : Int} (hC : Ext W w) (hp : a.eval p = .int .u32 x) (hq : a.eval q = .int .u32 y) (hr : a.eval r = .int .u32 z) (ho : a.eval o = .int .u32 u) :
    stepAt Try.prog ⟨d, .buildSlice 47 4 #[(0, p), (1, q), (2, r), (3, o)], t, s, af, g⟩ a w (fun v w' => ∃ b, v = .slice (some ⟨b, 0, none⟩) 4 4 ∧ Ext w w' ∧ (W.heap.size ≤ b ∧ UL w' (.slice (some ⟨b, 0, none⟩) 4 4) [x, y, z, u])) := by
  unfold stepAt
  simp only [execOp, Sem.run_bind, List.map_toArray, List.map_cons, List.map_nil, hp, hq, hr, ho, run_lit4U x y z u w, Result.andThen_ok]
  exact ⟨_, rfl, Ext.alloc _ _, hC.size, (Own.lit (enc := uE) uE_len w [x, y, z, u] (by unfold maxLen; simp) (by simp) (cs := [.int .u32 x, .int .u32 y, .int .u32 z, .int .u32 u]) (by simp [uE])).sl uE_len⟩
def marksL (σ : FwSt) : List Int := [σ.ep, σ.nx, IntKind.u32.wrap σ.wt.length, IntKind.u32.wrap σ.bf.length]
set_option maxRecDepth 100000 in
set_option maxHeartbeats 1600000 in
theorem marks_at {w : World} {b mw mb : Nat} {σ : FwSt} (h : FwAt w b mw mb σ) : Calls Try.prog 18 #[.pointer (some ⟨b, 0, none⟩)] w fun e w' => (∃ B, e = .returned (.slice (some ⟨B, 0, none⟩) 4 4) ∧ w.heap.size ≤ B ∧ UL w' (.slice (some ⟨B, 0, none⟩) 4 4) (marksL σ)) ∧ Ext w w' := by
  have H := Lib.hid h
  obtain ⟨ep, hep⟩ : ∃ ep, σ.ep = ep := ⟨_, rfl⟩
  obtain ⟨nx, hnx⟩ : ∃ nx, σ.nx = nx := ⟨_, rfl⟩
  obtain ⟨n1, hn1⟩ : ∃ n, σ.wt.length = n := ⟨_, rfl⟩
  obtain ⟨n2, hn2⟩ : ∃ n, σ.bf.length = n := ⟨_, rfl⟩
  have hml : marksL σ = [ep, nx, IntKind.u32.wrap n1, IntKind.u32.wrap n2] := by unfold marksL; rw [hep, hnx, hn1, hn2]
  have Hml := Lib.hid hml
  have Hn1 := Lib.hid hn1
  have Hn2 := Lib.hid hn2
  obtain ⟨c0, c1, c2, c3, lb⟩ := h.cells
  rw [hep] at c0
  rw [hnx] at c1
  clear h hep hnx hn1 hn2 hml
  go_enter Try.func18, Try.ntmps18
  go_upto_region 3 with (go_at_call 25; refine (isNil_at H.out).mono ?_; rintro e w2 ⟨rfl, rfl⟩)
  refine wp_region_plan [(0,0),(1,0),(2,0),(3,1),(4,0),(5,0),(6,0),(7,1),(8,0),(9,0),(10,0),(11,1),(12,1),(13,0),(14,0),(15,0),(16,0),(17,1),(18,1),(19,0),(20,2),(21,0)] (by kernel_rfl) (by kernel_rfl) (by kernel_rfl) (Ext w2) (fun _ _ h k => h.trans k) (Ext.drawn _ _) ?_
  iterate 3
    first
      | refine Fx.skip rfl rfl (by simp only [List.set_cons_zero, List.set_cons_succ]; rfl) ?_
      | (with_reducible refine Fx.lab0 ?_
         first
           | refine Fx.moveT rfl rfl rfl (by simp only [List.set_cons_zero, List.set_cons_succ]; rfl) ?_
           | refine Fx.assignT rfl rfl rfl (by simp only [List.set_cons_zero, List.set_cons_succ]; rfl) ?_
           | refine Fx.pure_ rfl rfl (fun _ => by go_simp; first | done | rfl) (by simp only [List.set_cons_zero, List.set_cons_succ]; rfl) ?_)
      | (with_reducible refine Fx.lab1 ?_
         refine Fx.look rfl rfl (fun w' hC => by obtain ⟨hc, hf, hl⟩ := Ext.cells hC; go_simp; rfl) (by simp only [List.set_cons_zero, List.set_cons_succ]; rfl) ?_)
  refine Fx.call1 (v := .int .u32 ep) (args := #[.pointer (some ⟨b, 0, none⟩)]) rfl rfl (fun _ => by first | (go_simp; done) | (go_simp; rfl)) (fun w' hC => (era_in (w := w') ((hC.cells.1 _ _ lb).trans c0)).mono (fun e w'' hh => ⟨hh.1, by rw [hh.2]; exact Ext.refl _⟩)) (by simp only [List.set_cons_zero, List.set_cons_succ]; rfl) ?_
  iterate 8
    first
      | refine Fx.skip rfl rfl (by simp only [List.set_cons_zero, List.set_cons_succ]; rfl) ?_
      | (with_reducible refine Fx.lab0 ?_
         first
           | refine Fx.moveT rfl rfl rfl (by simp only [List.set_cons_zero, List.set_cons_succ]; rfl) ?_
           | refine Fx.assignT rfl rfl rfl (by simp only [List.set_cons_zero, List.set_cons_succ]; rfl) ?_
           | refine Fx.pure_ rfl rfl (fun _ => by go_simp; first | done | rfl) (by simp only [List.set_cons_zero, List.set_cons_succ]; rfl) ?_)
      | (with_reducible refine Fx.lab1 ?_
         refine Fx.look rfl rfl (fun w' hC => by obtain ⟨hc, hf, hl⟩ := Ext.cells hC; go_simp; rfl) (by simp only [List.set_cons_zero, List.set_cons_succ]; rfl) ?_)
  refine Fx.look (v := .int .i64 n1) rfl rfl (fun w' hC => by
    have hl := (H.out.wm.ext hC).len Try.underlying69 (ty := 3)
    rw [Hn1.out] at hl
    go_simp) (by simp only [List.set_cons_zero, List.set_cons_succ]; rfl) ?_
  iterate 5
    first
      | refine Fx.skip rfl rfl (by simp only [List.set_cons_zero, List.set_cons_succ]; rfl) ?_
      | (with_reducible refine Fx.lab0 ?_
         first
           | refine Fx.moveT rfl rfl rfl (by simp only [List.set_cons_zero, List.set_cons_succ]; rfl) ?_
           | refine Fx.assignT rfl rfl rfl (by simp only [List.set_cons_zero, List.set_cons_succ]; rfl) ?_
           | refine Fx.pure_ rfl rfl (fun _ => by go_simp; first | done | rfl) (by simp only [List.set_cons_zero, List.set_cons_succ]; rfl) ?_)
      | (with_reducible refine Fx.lab1 ?_
         refine Fx.look rfl rfl (fun w' hC => by obtain ⟨hc, hf, hl⟩ := Ext.cells hC; go_simp; rfl) (by simp only [List.set_cons_zero, List.set_cons_succ]; rfl) ?_)
  refine Fx.look (v := .int .i64 n2) rfl rfl (fun w' hC => by
    have hl := (H.out.bm.ext hC).len Try.underlying69 (ty := 3)
    rw [Hn2.out] at hl
    go_simp) (by simp only [List.set_cons_zero, List.set_cons_succ]; rfl) ?_
  first
    | refine Fx.skip rfl rfl (by simp only [List.set_cons_zero, List.set_cons_succ]; rfl) ?_
    | (with_reducible refine Fx.lab0 ?_
       first
         | refine Fx.moveT rfl rfl rfl (by simp only [List.set_cons_zero, List.set_cons_succ]; rfl) ?_
         | refine Fx.assignT rfl rfl rfl (by simp only [List.set_cons_zero, List.set_cons_succ]; rfl) ?_
         | refine Fx.pure_ rfl rfl (fun _ => by go_simp; first | done | rfl) (by simp only [List.set_cons_zero, List.set_cons_succ]; rfl) ?_)
    | (with_reducible refine Fx.lab1 ?_
       refine Fx.look rfl rfl (fun w' hC => by obtain ⟨hc, hf, hl⟩ := Ext.cells hC; go_simp; rfl) (by simp only [List.set_cons_zero, List.set_cons_succ]; rfl) ?_)
  refine Fx.mkSl 4 4 (fun B w' => w2.heap.size ≤ B ∧ UL w' (.slice (some ⟨B, 0, none⟩) 4 4) [ep, nx, IntKind.u32.wrap n1, IntKind.u32.wrap n2]) (fun B _ _ h k => ⟨h.1, h.2.ext k⟩) rfl rfl (fun w' hC => stepAt_lit4U hC rfl rfl rfl rfl) (fun B => ?_)
  simp only [List.set_cons_zero, List.set_cons_succ]
  first
    | refine Fx.skip rfl rfl (by simp only [List.set_cons_zero, List.set_cons_succ]; rfl) ?_
    | (with_reducible refine Fx.lab0 ?_
       first
         | refine Fx.moveT rfl rfl rfl (by simp only [List.set_cons_zero, List.set_cons_succ]; rfl) ?_
         | refine Fx.assignT rfl rfl rfl (by simp only [List.set_cons_zero, List.set_cons_succ]; rfl) ?_
         | refine Fx.pure_ rfl rfl (fun _ => by go_simp; first | done | rfl) (by simp only [List.set_cons_zero, List.set_cons_succ]; rfl) ?_)
    | (with_reducible refine Fx.lab1 ?_
       refine Fx.look rfl rfl (fun w' hC => by obtain ⟨hc, hf, hl⟩ := Ext.cells hC; go_simp; rfl) (by simp only [List.set_cons_zero, List.set_cons_succ]; rfl) ?_)
  refine Fx.done (fun w3 hC => ?_)
  have HC := Lib.hid hC
  clear hC c0 c1 c2 c3 lb
  go_wp2
  go_ret
  exact ⟨⟨B, rfl, HC.out.2.1, by rw [Hml.out]; exact HC.out.2.2⟩, HC.out.1⟩
end Go.Proofs.Ytokljdkeegdniaa
