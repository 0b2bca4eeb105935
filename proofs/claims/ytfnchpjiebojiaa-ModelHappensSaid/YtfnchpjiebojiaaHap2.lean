/-
  Happen: the map of three method values, the look, the call.
-/
import Derived.Test.YtfnchpjiebojiaaHap
import Derived.Test.YtfnchpjiebojiaaMaps2
import Derived.Deep.Cut
namespace Go.Proofs.Ytfnchpjiebojiaa
open Go.RowKit

def funcsOf (b : Nat) : List (Int × Value) :=
  [(1, .func (.func 23) #[.pointer (some ⟨b, 0, none⟩)] #[]), (2, .func (.func 24) #[.pointer (some ⟨b, 0, none⟩)] #[]),
   (3, .func (.func 25) #[.pointer (some ⟨b, 0, none⟩)] #[])]

def funcsOf1 (b : Nat) : List (Int × Value) := [(1, .func (.func 23) #[.pointer (some ⟨b, 0, none⟩)] #[])]
def funcsOf2 (b : Nat) : List (Int × Value) :=
  [(1, .func (.func 23) #[.pointer (some ⟨b, 0, none⟩)] #[]), (2, .func (.func 24) #[.pointer (some ⟨b, 0, none⟩)] #[])]
theorem run_load_Hp {a : Value} {b o : Nat} {h : Hp} {w : World} (ha : a = .pointer (some ⟨b, o, none⟩)) (c0 : w.cell? ⟨b, o, none⟩ = some (.int .i64 h.k)) (c1 : w.cell? ⟨b, o + 1, none⟩ = some (.int .i64 h.n))
    (c2 : w.cell? ⟨b, o + 2, none⟩ = some (.int .i64 h.m.f)) (c3 : w.cell? ⟨b, o + 3, none⟩ = some (.int .u32 h.m.c)) (c4 : w.cell? ⟨b, o + 4, none⟩ = some (.string h.m.d)) :
    (Instr.loadAt 36 a).run Try.prog w = .ok h.val w := by
  subst ha
  unfold Hp.val
  simp [go_sem, c0, c1, c2, c3, c4, Try.isAgg36, Try.sizeOf36]
theorem op_load_Hp' {W : World} {ρ : Operand → Value} {d : Option Tmp} {x : Operand} {t : TypeId} {s : String} {af : Array Edge} {g : Option (Nat × Bool)} {b o : Nat} {h : Hp} (hlt : b < W.heap.size)
    (c0 : W.cell? ⟨b, o, none⟩ = some (.int .i64 h.k)) (c1 : W.cell? ⟨b, o + 1, none⟩ = some (.int .i64 h.n)) (c2 : W.cell? ⟨b, o + 2, none⟩ = some (.int .i64 h.m.f)) (c3 : W.cell? ⟨b, o + 3, none⟩ = some (.int .u32 h.m.c))
    (c4 : W.cell? ⟨b, o + 4, none⟩ = some (.string h.m.d)) (hx : ρ x = .pointer (some ⟨b, o, none⟩)) :
    ∀ w, Ext W w → (execOp ρ ⟨d, .load 36 x, t, s, af, g⟩).run Try.prog w = .ok (.value h.val) w := fun w he => by
  have hc := he.cells.1
  simp only [execOp, Sem.run_bind, run_load_Hp hx ((hc _ _ hlt).trans c0) ((hc _ _ hlt).trans c1) ((hc _ _ hlt).trans c2) ((hc _ _ hlt).trans c3) ((hc _ _ hlt).trans c4), Result.andThen_ok]; rfl
theorem keysInt : KeyOps Try.prog 3 (Value.int .i64) := keyOps_int Try.underlying3

set_option maxRecDepth 100000 in
set_option maxHeartbeats 1600000 in
theorem happen_call (b sb mb : Nat) (lv : Value) (σ σ' : MSt) (r : Bool) (fn : FuncId) (h : Hp) (w : World) (hM : ModelAt w b sb mb lv σ)
    (hk : kfind h.k (funcsOf b) = some (.func (.func fn) #[.pointer (some ⟨b, 0, none⟩)] #[])) (hn : (decide (0 ≤ h.n) && decide (h.n < σ.n)) = true)
    (hcf : ∀ args w, (callFunc fn args).run Try.prog w = .ok (.enter fn args) w) (hc : ∀ w, ModelAt w b sb mb lv σ → Calls Try.prog fn #[.pointer (some ⟨b, 0, none⟩), h.val] w (DeliverR b sb mb lv σ' r w)) (c : Int) (hcr : c = if r then 0 else 160) :
    Calls Try.prog 14 #[.pointer (some ⟨b, 0, none⟩), h.val] w fun e w' => e = .returned (.int .i64 c) ∧ ∃ lv', ModelAt w' b sb mb lv' σ' ∧ Mods (FM b sb mb lv) w w' ∧ ∀ y, lv'.ownBlock = some y → lv.ownBlock = some y ∨ w.heap.size ≤ y := by
  have hE0 := Ext.alloc w (.cells #[.int .i64 h.k, .int .i64 h.n, .int .i64 h.m.f, .int .u32 h.m.c, .string h.m.d] 36)
  have HM0 := Lib.hid (hM.ext hE0)
  have hE := Lib.hid hE0
  have hbw : ¬ FM b sb mb lv w.heap.size := fun e => by have := hM.lt e; omega
  have Hbw := Lib.hid hbw
  have bx := box_Hp w h
  have b0 := bx.cell 0 (by decide)
  have b1 := bx.cell 1 (by decide)
  have b2 := bx.cell 2 (by decide)
  have b3 := bx.cell 3 (by decide)
  have b4 := bx.cell 4 (by decide)
  have bl := bx.lt
  simp only [Hp.enc, List.getD_cons_zero, List.getD_cons_succ] at b0 b1 b2 b3 b4
  have Hk := Lib.hid hk
  have Hn := Lib.hid hn
  have Hc := Lib.hid hc
  have Hcr := Lib.hid hcr
  have hval : h.val = .agg #[.int .i64 h.k, .int .i64 h.n, .int .i64 h.m.f, .int .u32 h.m.c, .string h.m.d] := rfl
  have Hval := Lib.hid hval
  rw [hval]
  clear hE0 hM hbw hk hn hc hcr bx hval
  have Hpost : ∃ R : Ending → World → Prop, R = fun e w' => e = .returned (.int .i64 c) ∧ ∃ lv', ModelAt w' b sb mb lv' σ' ∧ Mods (FM b sb mb lv) w w' ∧ ∀ y, lv'.ownBlock = some y → lv.ownBlock = some y ∨ w.heap.size ≤ y := ⟨_, rfl⟩
  obtain ⟨R, hR⟩ := Hpost
  rw [← hR]
  have HR := Lib.hid hR
  clear hR
  go_enter Try.func14, Try.ntmps14
  go_upto_region 3 with (first
    | (go_at_call 22; refine (isNil_at HM0.out).mono ?_; rintro e w' ⟨rfl, rfl⟩))
  have hWs : w.heap.size < (w.alloc (.cells #[.int .i64 h.k, .int .i64 h.n, .int .i64 h.m.f, .int .u32 h.m.c, .string h.m.d] 36)).heap.size := bl
  generalize hW : w.alloc (.cells #[.int .i64 h.k, .int .i64 h.n, .int .i64 h.m.f, .int .u32 h.m.c, .string h.m.d] 36) = W at *
  refine wp_region_line [(0,2),(1,0),(2,0),(3,3),(4,0),(5,0),(6,3),(7,0),(8,0),(9,3),(10,0),(11,0)] (by kernel_rfl) (by kernel_rfl) (Ext W) (fun _ _ h k => h.trans k) (Ext.refl _) ?_
  refine Fx.mkBy (fun r => .map (some r)) (fun r w' => MapIs w' r (Value.int .i64) id ([] : List (Int × Value)) ∧ W.heap.size ≤ r) (fun r _ _ h k => ⟨h.1.ext k, h.2⟩) rfl rfl (fun w' hC => stepAt_makeMap hC) (fun q => ?_)
  simp only [List.set_cons_zero, List.set_cons_succ]
  iterate 2
    first
      | refine Fx.skip rfl rfl (by simp only [List.set_cons_zero, List.set_cons_succ]; rfl) ?_
      | (with_reducible refine Fx.lab0 ?_
         first
           | refine Fx.moveT rfl rfl rfl (by simp only [List.set_cons_zero, List.set_cons_succ]; rfl) ?_
           | refine Fx.assignT rfl rfl rfl (by simp only [List.set_cons_zero, List.set_cons_succ]; rfl) ?_
           | refine Fx.pure_ rfl rfl (fun _ => by go_simp; first | done | rfl) (by simp only [List.set_cons_zero, List.set_cons_succ]; rfl) ?_)
      | (with_reducible refine Fx.lab1 ?_
         refine Fx.look rfl rfl (fun w' hC => by obtain ⟨hc, hf, hl⟩ := Ext.cells hC; go_simp; rfl) (by simp only [List.set_cons_zero, List.set_cons_succ]; rfl) ?_)
  refine Fx.eff0 (fun w' => Ext W w' ∧ MapIs w' q (Value.int .i64) id (funcsOf1 b) ∧ W.heap.size ≤ q) (fun _ _ h k => ⟨h.1.trans k, h.2.1.ext k, h.2.2⟩) rfl rfl (fun w' hC => stepAt_ins_new hC.1 hC.2 keysInt Try.underlying66 1 _ rfl rfl rfl rfl) ?_
  iterate 2
    first
      | refine Fx.skip rfl rfl (by simp only [List.set_cons_zero, List.set_cons_succ]; rfl) ?_
      | (with_reducible refine Fx.lab0 ?_
         first
           | refine Fx.moveT rfl rfl rfl (by simp only [List.set_cons_zero, List.set_cons_succ]; rfl) ?_
           | refine Fx.assignT rfl rfl rfl (by simp only [List.set_cons_zero, List.set_cons_succ]; rfl) ?_
           | refine Fx.pure_ rfl rfl (fun _ => by go_simp; first | done | rfl) (by simp only [List.set_cons_zero, List.set_cons_succ]; rfl) ?_)
      | (with_reducible refine Fx.lab1 ?_
         refine Fx.look rfl rfl (fun w' hC => by obtain ⟨hc, hf, hl⟩ := Ext.cells hC; go_simp; rfl) (by simp only [List.set_cons_zero, List.set_cons_succ]; rfl) ?_)
  refine Fx.eff0 (fun w' => Ext W w' ∧ MapIs w' q (Value.int .i64) id (funcsOf2 b) ∧ W.heap.size ≤ q) (fun _ _ h k => ⟨h.1.trans k, h.2.1.ext k, h.2.2⟩) rfl rfl (fun w' hC => stepAt_ins_new hC.1 hC.2 keysInt Try.underlying66 2 _ rfl rfl rfl rfl) ?_
  iterate 2
    first
      | refine Fx.skip rfl rfl (by simp only [List.set_cons_zero, List.set_cons_succ]; rfl) ?_
      | (with_reducible refine Fx.lab0 ?_
         first
           | refine Fx.moveT rfl rfl rfl (by simp only [List.set_cons_zero, List.set_cons_succ]; rfl) ?_
           | refine Fx.assignT rfl rfl rfl (by simp only [List.set_cons_zero, List.set_cons_succ]; rfl) ?_
           | refine Fx.pure_ rfl rfl (fun _ => by go_simp; first | done | rfl) (by simp only [List.set_cons_zero, List.set_cons_succ]; rfl) ?_)
      | (with_reducible refine Fx.lab1 ?_
         refine Fx.look rfl rfl (fun w' hC => by obtain ⟨hc, hf, hl⟩ := Ext.cells hC; go_simp; rfl) (by simp only [List.set_cons_zero, List.set_cons_succ]; rfl) ?_)
  refine Fx.eff0 (fun w' => Ext W w' ∧ MapIs w' q (Value.int .i64) id (funcsOf b) ∧ W.heap.size ≤ q) (fun _ _ h k => ⟨h.1.trans k, h.2.1.ext k, h.2.2⟩) rfl rfl (fun w' hC => stepAt_ins_new hC.1 hC.2 keysInt Try.underlying66 3 _ rfl rfl rfl rfl) ?_
  iterate 2
    first
      | refine Fx.skip rfl rfl (by simp only [List.set_cons_zero, List.set_cons_succ]; rfl) ?_
      | (with_reducible refine Fx.lab0 ?_
         first
           | refine Fx.moveT rfl rfl rfl (by simp only [List.set_cons_zero, List.set_cons_succ]; rfl) ?_
           | refine Fx.assignT rfl rfl rfl (by simp only [List.set_cons_zero, List.set_cons_succ]; rfl) ?_
           | refine Fx.pure_ rfl rfl (fun _ => by go_simp; first | done | rfl) (by simp only [List.set_cons_zero, List.set_cons_succ]; rfl) ?_)
      | (with_reducible refine Fx.lab1 ?_
         refine Fx.look rfl rfl (fun w' hC => by obtain ⟨hc, hf, hl⟩ := Ext.cells hC; go_simp; rfl) (by simp only [List.set_cons_zero, List.set_cons_succ]; rfl) ?_)
  refine Fx.done (fun w1 hC => ?_)
  obtain ⟨hC1, hC2, -⟩ := hC
  have HM1 := Lib.hid (HM0.out.ext hC1)
  have HE1 := Lib.hid (hE.out.trans hC1)
  obtain ⟨xc, xf, xl⟩ := hC1.cells
  replace b0 := (xc _ _ bl).trans b0
  replace b1 := (xc _ _ bl).trans b1
  replace b2 := (xc _ _ bl).trans b2
  replace b3 := (xc _ _ bl).trans b3
  replace b4 := (xc _ _ bl).trans b4
  replace bl := xl _ bl
  have HC2 := Lib.hid hC2
  clear xc xf xl hC1 hC2
  go_upto_region 4 with fail
  refine wp_region_line [(0,0),(1,0),(2,1),(3,1),(4,0),(5,0),(6,0),(7,0),(8,0)] (by kernel_rfl) (by kernel_rfl) (Ext w1) (fun _ _ h k => h.trans k) (Ext.refl _) ?_
  iterate 3
    first
      | refine Fx.skip rfl rfl (by simp only [List.set_cons_zero, List.set_cons_succ]; rfl) ?_
      | (with_reducible refine Fx.lab0 ?_
         first
           | refine Fx.moveT rfl rfl rfl (by simp only [List.set_cons_zero, List.set_cons_succ]; rfl) ?_
           | refine Fx.assignT rfl rfl rfl (by simp only [List.set_cons_zero, List.set_cons_succ]; rfl) ?_
           | refine Fx.pure_ rfl rfl (fun _ => by go_simp; first | done | rfl) (by simp only [List.set_cons_zero, List.set_cons_succ]; rfl) ?_)
      | (with_reducible refine Fx.lab1 ?_
         refine Fx.look rfl rfl (fun w' hC => by obtain ⟨hc, hf, hl⟩ := Ext.cells hC; go_simp; rfl) (by simp only [List.set_cons_zero, List.set_cons_succ]; rfl) ?_)
  refine Fx.look (v := .tuple #[.func (.func fn) #[.pointer (some ⟨b, 0, none⟩)] #[], .bool true]) rfl rfl (fun w' hC => by rw [op_look (k := h.k) (HC2.out.ext hC) keysInt Try.underlying66 (Try.zeroValue54 w') rfl rfl, Hk.out]; rfl) (by simp only [List.set_cons_zero, List.set_cons_succ]; rfl) ?_
  iterate 5
    first
      | refine Fx.skip rfl rfl (by simp only [List.set_cons_zero, List.set_cons_succ]; rfl) ?_
      | (with_reducible refine Fx.lab0 ?_
         first
           | refine Fx.moveT rfl rfl rfl (by simp only [List.set_cons_zero, List.set_cons_succ]; rfl) ?_
           | refine Fx.assignT rfl rfl rfl (by simp only [List.set_cons_zero, List.set_cons_succ]; rfl) ?_
           | refine Fx.pure_ rfl rfl (fun _ => by go_simp; first | done | rfl) (by simp only [List.set_cons_zero, List.set_cons_succ]; rfl) ?_)
      | (with_reducible refine Fx.lab1 ?_
         refine Fx.look rfl rfl (fun w' hC => by obtain ⟨hc, hf, hl⟩ := Ext.cells hC; go_simp; rfl) (by simp only [List.set_cons_zero, List.set_cons_succ]; rfl) ?_)
  refine Fx.done (fun w2 hC => ?_)
  have HM2 := Lib.hid (HM1.out.ext hC)
  have HE2 := Lib.hid (HE1.out.trans hC)
  obtain ⟨xc, xf, xl⟩ := hC.cells
  replace b0 := (xc _ _ bl).trans b0
  replace b1 := (xc _ _ bl).trans b1
  replace b2 := (xc _ _ bl).trans b2
  replace b3 := (xc _ _ bl).trans b3
  replace b4 := (xc _ _ bl).trans b4
  replace bl := xl _ bl
  clear xc xf xl hC
  go_upto_region 5 with fail
  refine wp_region_line [(0,0),(1,0),(2,0),(3,0),(4,0),(5,1),(6,1),(7,0),(8,0),(9,0),(10,0),(11,1),(12,3),(13,0),(14,0)] (by kernel_rfl) (by kernel_rfl) (Ext w2) (fun _ _ h k => h.trans k) (Ext.refl _) ?_
  iterate 6
    first
      | refine Fx.skip rfl rfl (by simp only [List.set_cons_zero, List.set_cons_succ]; rfl) ?_
      | (with_reducible refine Fx.lab0 ?_
         first
           | refine Fx.moveT rfl rfl rfl (by simp only [List.set_cons_zero, List.set_cons_succ]; rfl) ?_
           | refine Fx.assignT rfl rfl rfl (by simp only [List.set_cons_zero, List.set_cons_succ]; rfl) ?_
           | refine Fx.pure_ rfl rfl (fun _ => by go_simp; first | done | rfl) (by simp only [List.set_cons_zero, List.set_cons_succ]; rfl) ?_)
      | (with_reducible refine Fx.lab1 ?_
         refine Fx.look rfl rfl (fun w' hC => by obtain ⟨hc, hf, hl⟩ := Ext.cells hC; go_simp; rfl) (by simp only [List.set_cons_zero, List.set_cons_succ]; rfl) ?_)
  refine Fx.call1 (v := .bool true) (args := #[.pointer (some ⟨b, 0, none⟩), .int .i64 h.n]) rfl rfl (fun _ => by first | (go_simp; done) | (go_simp; rfl)) (fun w' hC => (isNode_at (HM2.out.ext hC) h.n).mono (fun e w'' hh => by rw [Hn.out] at hh; exact ⟨hh.1, hh.2 ▸ Ext.refl _⟩)) (by simp only [List.set_cons_zero, List.set_cons_succ]; rfl) ?_
  iterate 4
    first
      | refine Fx.skip rfl rfl (by simp only [List.set_cons_zero, List.set_cons_succ]; rfl) ?_
      | (with_reducible refine Fx.lab0 ?_
         first
           | refine Fx.moveT rfl rfl rfl (by simp only [List.set_cons_zero, List.set_cons_succ]; rfl) ?_
           | refine Fx.assignT rfl rfl rfl (by simp only [List.set_cons_zero, List.set_cons_succ]; rfl) ?_
           | refine Fx.pure_ rfl rfl (fun _ => by go_simp; first | done | rfl) (by simp only [List.set_cons_zero, List.set_cons_succ]; rfl) ?_)
      | (with_reducible refine Fx.lab1 ?_
         refine Fx.look rfl rfl (fun w' hC => by obtain ⟨hc, hf, hl⟩ := Ext.cells hC; go_simp; rfl) (by simp only [List.set_cons_zero, List.set_cons_succ]; rfl) ?_)
  refine Fx.look rfl rfl (op_load_Hp' (h := h) bl b0 b1 b2 b3 b4 rfl) (by simp only [List.set_cons_zero, List.set_cons_succ]; rfl) ?_
  refine Fx.callV (.bool r) (fun w' => ∃ lv', ModelAt w' b sb mb lv' σ' ∧ Mods (FM b sb mb lv) w2 w' ∧ ∀ y, lv'.ownBlock = some y → lv.ownBlock = some y ∨ w2.heap.size ≤ y) (fun _ _ h k => let ⟨lv', h1, h2, h3⟩ := h; ⟨lv', h1.ext k, h2.then_ k, h3⟩)
    (f := fn) (args := #[.pointer (some ⟨b, 0, none⟩), h.val]) rfl rfl (fun _ => by first | (go_simp; done) | (go_simp; rfl)) (fun w' hC => (Hc.out _ (HM2.out.ext hC)).mono (fun e w'' hh => ?_)) (by simp only [List.set_cons_zero, List.set_cons_succ]; rfl) ?_
  · obtain ⟨h1, lv', h2, h3, h4⟩ := hh
    exact ⟨h1, lv', h2, h3.after hC, fun y hy => (h4 y hy).imp id (fun h => Nat.le_trans hC.size h)⟩
  iterate 2
    first
      | refine Fx.skip rfl rfl (by simp only [List.set_cons_zero, List.set_cons_succ]; rfl) ?_
      | (with_reducible refine Fx.lab0 ?_
         first
           | refine Fx.moveT rfl rfl rfl (by simp only [List.set_cons_zero, List.set_cons_succ]; rfl) ?_
           | refine Fx.assignT rfl rfl rfl (by simp only [List.set_cons_zero, List.set_cons_succ]; rfl) ?_
           | refine Fx.pure_ rfl rfl (fun _ => by go_simp; first | done | rfl) (by simp only [List.set_cons_zero, List.set_cons_succ]; rfl) ?_)
      | (with_reducible refine Fx.lab1 ?_
         refine Fx.look rfl rfl (fun w' hC => by obtain ⟨hc, hf, hl⟩ := Ext.cells hC; go_simp; rfl) (by simp only [List.set_cons_zero, List.set_cons_succ]; rfl) ?_)
  refine Fx.done (fun w3 hC => ?_)
  have HC := Lib.hid hC
  clear hC
  have Hfin : ∀ (c' : Int), c' = c → R (.returned (.int .i64 c')) w3 := fun c' hc' => by
    rw [HR.out]
    obtain ⟨lv', h1, h2, h3⟩ := HC.out
    exact ⟨by rw [hc'], lv', h1, h2.after HE2.out, fun y hy => (h3 y hy).imp id (fun h => Nat.le_trans HE2.out.size h)⟩
  have HF := Lib.hid Hfin
  clear Hfin
  cases r
  · simp only [Bool.not_false]
    go_wp2
    exact HF.out 160 Hcr.out.symm
  · simp only [Bool.not_true]
    go_wp2
    exact HF.out 0 Hcr.out.symm

set_option maxRecDepth 100000 in
set_option maxHeartbeats 1600000 in
/-- No such kind, or no such node. -/
theorem happen_out (b sb mb : Nat) (lv : Value) (σ : MSt) (h : Hp) (w : World) (hM : ModelAt w b sb mb lv σ) (o : Option Value)
    (hk : kfind h.k (funcsOf b) = o) (hno : o = none ∨ (decide (0 ≤ h.n) && decide (h.n < σ.n)) = false) :
    Calls Try.prog 14 #[.pointer (some ⟨b, 0, none⟩), h.val] w fun e w' => e = .returned (.int .i64 160) ∧ Ext w w' := by
  have hE0 := Ext.alloc w (.cells #[.int .i64 h.k, .int .i64 h.n, .int .i64 h.m.f, .int .u32 h.m.c, .string h.m.d] 36)
  have HM0 := Lib.hid (hM.ext hE0)
  have hE := Lib.hid hE0
  have bx := box_Hp w h
  have b0 := bx.cell 0 (by decide)
  have b1 := bx.cell 1 (by decide)
  have b2 := bx.cell 2 (by decide)
  have b3 := bx.cell 3 (by decide)
  have b4 := bx.cell 4 (by decide)
  have bl := bx.lt
  simp only [Hp.enc, List.getD_cons_zero, List.getD_cons_succ] at b0 b1 b2 b3 b4
  have Hk := Lib.hid hk
  have Hno := Lib.hid hno
  have hval : h.val = .agg #[.int .i64 h.k, .int .i64 h.n, .int .i64 h.m.f, .int .u32 h.m.c, .string h.m.d] := rfl
  rw [hval]
  clear hE0 hM hk hno bx hval
  have Hpost : ∃ R : Ending → World → Prop, R = fun e w' => e = .returned (.int .i64 160) ∧ Ext w w' := ⟨_, rfl⟩
  obtain ⟨R, hR⟩ := Hpost
  rw [← hR]
  have HR := Lib.hid hR
  clear hR
  go_enter Try.func14, Try.ntmps14
  go_upto_region 3 with (first
    | (go_at_call 22; refine (isNil_at HM0.out).mono ?_; rintro e w' ⟨rfl, rfl⟩))
  generalize hW : w.alloc (.cells #[.int .i64 h.k, .int .i64 h.n, .int .i64 h.m.f, .int .u32 h.m.c, .string h.m.d] 36) = W at *
  refine wp_region_line [(0,2),(1,0),(2,0),(3,3),(4,0),(5,0),(6,3),(7,0),(8,0),(9,3),(10,0),(11,0)] (by kernel_rfl) (by kernel_rfl) (Ext W) (fun _ _ h k => h.trans k) (Ext.refl _) ?_
  refine Fx.mkBy (fun r => .map (some r)) (fun r w' => MapIs w' r (Value.int .i64) id ([] : List (Int × Value)) ∧ W.heap.size ≤ r) (fun r _ _ h k => ⟨h.1.ext k, h.2⟩) rfl rfl (fun w' hC => stepAt_makeMap hC) (fun q => ?_)
  simp only [List.set_cons_zero, List.set_cons_succ]
  iterate 2
    first
      | refine Fx.skip rfl rfl (by simp only [List.set_cons_zero, List.set_cons_succ]; rfl) ?_
      | (with_reducible refine Fx.lab0 ?_
         first
           | refine Fx.moveT rfl rfl rfl (by simp only [List.set_cons_zero, List.set_cons_succ]; rfl) ?_
           | refine Fx.assignT rfl rfl rfl (by simp only [List.set_cons_zero, List.set_cons_succ]; rfl) ?_
           | refine Fx.pure_ rfl rfl (fun _ => by go_simp; first | done | rfl) (by simp only [List.set_cons_zero, List.set_cons_succ]; rfl) ?_)
      | (with_reducible refine Fx.lab1 ?_
         refine Fx.look rfl rfl (fun w' hC => by obtain ⟨hc, hf, hl⟩ := Ext.cells hC; go_simp; rfl) (by simp only [List.set_cons_zero, List.set_cons_succ]; rfl) ?_)
  refine Fx.eff0 (fun w' => Ext W w' ∧ MapIs w' q (Value.int .i64) id (funcsOf1 b) ∧ W.heap.size ≤ q) (fun _ _ h k => ⟨h.1.trans k, h.2.1.ext k, h.2.2⟩) rfl rfl (fun w' hC => stepAt_ins_new hC.1 hC.2 keysInt Try.underlying66 1 _ rfl rfl rfl rfl) ?_
  iterate 2
    first
      | refine Fx.skip rfl rfl (by simp only [List.set_cons_zero, List.set_cons_succ]; rfl) ?_
      | (with_reducible refine Fx.lab0 ?_
         first
           | refine Fx.moveT rfl rfl rfl (by simp only [List.set_cons_zero, List.set_cons_succ]; rfl) ?_
           | refine Fx.assignT rfl rfl rfl (by simp only [List.set_cons_zero, List.set_cons_succ]; rfl) ?_
           | refine Fx.pure_ rfl rfl (fun _ => by go_simp; first | done | rfl) (by simp only [List.set_cons_zero, List.set_cons_succ]; rfl) ?_)
      | (with_reducible refine Fx.lab1 ?_
         refine Fx.look rfl rfl (fun w' hC => by obtain ⟨hc, hf, hl⟩ := Ext.cells hC; go_simp; rfl) (by simp only [List.set_cons_zero, List.set_cons_succ]; rfl) ?_)
  refine Fx.eff0 (fun w' => Ext W w' ∧ MapIs w' q (Value.int .i64) id (funcsOf2 b) ∧ W.heap.size ≤ q) (fun _ _ h k => ⟨h.1.trans k, h.2.1.ext k, h.2.2⟩) rfl rfl (fun w' hC => stepAt_ins_new hC.1 hC.2 keysInt Try.underlying66 2 _ rfl rfl rfl rfl) ?_
  iterate 2
    first
      | refine Fx.skip rfl rfl (by simp only [List.set_cons_zero, List.set_cons_succ]; rfl) ?_
      | (with_reducible refine Fx.lab0 ?_
         first
           | refine Fx.moveT rfl rfl rfl (by simp only [List.set_cons_zero, List.set_cons_succ]; rfl) ?_
           | refine Fx.assignT rfl rfl rfl (by simp only [List.set_cons_zero, List.set_cons_succ]; rfl) ?_
           | refine Fx.pure_ rfl rfl (fun _ => by go_simp; first | done | rfl) (by simp only [List.set_cons_zero, List.set_cons_succ]; rfl) ?_)
      | (with_reducible refine Fx.lab1 ?_
         refine Fx.look rfl rfl (fun w' hC => by obtain ⟨hc, hf, hl⟩ := Ext.cells hC; go_simp; rfl) (by simp only [List.set_cons_zero, List.set_cons_succ]; rfl) ?_)
  refine Fx.eff0 (fun w' => Ext W w' ∧ MapIs w' q (Value.int .i64) id (funcsOf b) ∧ W.heap.size ≤ q) (fun _ _ h k => ⟨h.1.trans k, h.2.1.ext k, h.2.2⟩) rfl rfl (fun w' hC => stepAt_ins_new hC.1 hC.2 keysInt Try.underlying66 3 _ rfl rfl rfl rfl) ?_
  iterate 2
    first
      | refine Fx.skip rfl rfl (by simp only [List.set_cons_zero, List.set_cons_succ]; rfl) ?_
      | (with_reducible refine Fx.lab0 ?_
         first
           | refine Fx.moveT rfl rfl rfl (by simp only [List.set_cons_zero, List.set_cons_succ]; rfl) ?_
           | refine Fx.assignT rfl rfl rfl (by simp only [List.set_cons_zero, List.set_cons_succ]; rfl) ?_
           | refine Fx.pure_ rfl rfl (fun _ => by go_simp; first | done | rfl) (by simp only [List.set_cons_zero, List.set_cons_succ]; rfl) ?_)
      | (with_reducible refine Fx.lab1 ?_
         refine Fx.look rfl rfl (fun w' hC => by obtain ⟨hc, hf, hl⟩ := Ext.cells hC; go_simp; rfl) (by simp only [List.set_cons_zero, List.set_cons_succ]; rfl) ?_)
  refine Fx.done (fun w1 hC => ?_)
  obtain ⟨hC1, hC2, -⟩ := hC
  have HM1 := Lib.hid (HM0.out.ext hC1)
  have HE1 := Lib.hid (hE.out.trans hC1)
  obtain ⟨xc, xf, xl⟩ := hC1.cells
  replace b0 := (xc _ _ bl).trans b0
  replace b1 := (xc _ _ bl).trans b1
  replace b2 := (xc _ _ bl).trans b2
  replace b3 := (xc _ _ bl).trans b3
  replace b4 := (xc _ _ bl).trans b4
  replace bl := xl _ bl
  have HC2 := Lib.hid hC2
  clear xc xf xl hC1 hC2
  go_upto_region 4 with fail
  refine wp_region_line [(0,0),(1,0),(2,1),(3,1),(4,0),(5,0),(6,0),(7,0),(8,0)] (by kernel_rfl) (by kernel_rfl) (Ext w1) (fun _ _ h k => h.trans k) (Ext.refl _) ?_
  iterate 3
    first
      | refine Fx.skip rfl rfl (by simp only [List.set_cons_zero, List.set_cons_succ]; rfl) ?_
      | (with_reducible refine Fx.lab0 ?_
         first
           | refine Fx.moveT rfl rfl rfl (by simp only [List.set_cons_zero, List.set_cons_succ]; rfl) ?_
           | refine Fx.assignT rfl rfl rfl (by simp only [List.set_cons_zero, List.set_cons_succ]; rfl) ?_
           | refine Fx.pure_ rfl rfl (fun _ => by go_simp; first | done | rfl) (by simp only [List.set_cons_zero, List.set_cons_succ]; rfl) ?_)
      | (with_reducible refine Fx.lab1 ?_
         refine Fx.look rfl rfl (fun w' hC => by obtain ⟨hc, hf, hl⟩ := Ext.cells hC; go_simp; rfl) (by simp only [List.set_cons_zero, List.set_cons_succ]; rfl) ?_)
  refine Fx.look (v := .tuple #[o.getD (.nilFunc), .bool o.isSome]) rfl rfl (fun w' hC => by rw [op_look (k := h.k) (HC2.out.ext hC) keysInt Try.underlying66 (Try.zeroValue54 w') rfl rfl, Hk.out]; cases o <;> rfl) (by simp only [List.set_cons_zero, List.set_cons_succ]; rfl) ?_
  iterate 5
    first
      | refine Fx.skip rfl rfl (by simp only [List.set_cons_zero, List.set_cons_succ]; rfl) ?_
      | (with_reducible refine Fx.lab0 ?_
         first
           | refine Fx.moveT rfl rfl rfl (by simp only [List.set_cons_zero, List.set_cons_succ]; rfl) ?_
           | refine Fx.assignT rfl rfl rfl (by simp only [List.set_cons_zero, List.set_cons_succ]; rfl) ?_
           | refine Fx.pure_ rfl rfl (fun _ => by go_simp; first | done | rfl) (by simp only [List.set_cons_zero, List.set_cons_succ]; rfl) ?_)
      | (with_reducible refine Fx.lab1 ?_
         refine Fx.look rfl rfl (fun w' hC => by obtain ⟨hc, hf, hl⟩ := Ext.cells hC; go_simp; rfl) (by simp only [List.set_cons_zero, List.set_cons_succ]; rfl) ?_)
  refine Fx.done (fun w2 hC => ?_)
  have HM2 := Lib.hid (HM1.out.ext hC)
  have HE2 := Lib.hid (HE1.out.trans hC)
  obtain ⟨xc, xf, xl⟩ := hC.cells
  replace b0 := (xc _ _ bl).trans b0
  replace b1 := (xc _ _ bl).trans b1
  replace bl := xl _ bl
  clear xc xf xl hC b2 b3 b4
  have Hfin : ∀ w3, Ext w2 w3 → R (.returned (.int .i64 160)) w3 := fun w3 h3 => by
    rw [HR.out]
    exact ⟨rfl, HE2.out.trans h3⟩
  have HF := Lib.hid Hfin
  clear Hfin
  go_upto_region 5 with fail
  refine wp_region_line [(0,0),(1,0),(2,0),(3,0),(4,0),(5,1),(6,1),(7,0),(8,0),(9,0),(10,0),(11,1),(12,3),(13,0),(14,0)] (by kernel_rfl) (by kernel_rfl) (Ext w2) (fun _ _ h k => h.trans k) (Ext.refl _) ?_
  cases o with
  | none =>
    simp only [Option.isSome_none, Option.getD_none]
    iterate 15
      first
        | refine Fx.skip rfl rfl (by simp only [List.set_cons_zero, List.set_cons_succ]; rfl) ?_
        | (with_reducible refine Fx.lab0 ?_
           first
             | refine Fx.moveT rfl rfl rfl (by simp only [List.set_cons_zero, List.set_cons_succ]; rfl) ?_
             | refine Fx.assignT rfl rfl rfl (by simp only [List.set_cons_zero, List.set_cons_succ]; rfl) ?_
             | refine Fx.pure_ rfl rfl (fun _ => by go_simp; first | done | rfl) (by simp only [List.set_cons_zero, List.set_cons_succ]; rfl) ?_)
        | (with_reducible refine Fx.lab1 ?_
           refine Fx.look rfl rfl (fun w' hC => by obtain ⟨hc, hf, hl⟩ := Ext.cells hC; go_simp; rfl) (by simp only [List.set_cons_zero, List.set_cons_succ]; rfl) ?_)
    refine Fx.done (fun w3 hC => ?_)
    go_wp2
    exact HF.out _ hC
  | some v =>
    simp only [Option.isSome_some, Option.getD_some]
    have hn := Hno.out.resolve_left (by simp)
    have Hn := Lib.hid hn
    clear hn
    iterate 6
      first
        | refine Fx.skip rfl rfl (by simp only [List.set_cons_zero, List.set_cons_succ]; rfl) ?_
        | (with_reducible refine Fx.lab0 ?_
           first
             | refine Fx.moveT rfl rfl rfl (by simp only [List.set_cons_zero, List.set_cons_succ]; rfl) ?_
             | refine Fx.assignT rfl rfl rfl (by simp only [List.set_cons_zero, List.set_cons_succ]; rfl) ?_
             | refine Fx.pure_ rfl rfl (fun _ => by go_simp; first | done | rfl) (by simp only [List.set_cons_zero, List.set_cons_succ]; rfl) ?_)
        | (with_reducible refine Fx.lab1 ?_
           refine Fx.look rfl rfl (fun w' hC => by obtain ⟨hc, hf, hl⟩ := Ext.cells hC; go_simp; rfl) (by simp only [List.set_cons_zero, List.set_cons_succ]; rfl) ?_)
    refine Fx.call1 (v := .bool false) (args := #[.pointer (some ⟨b, 0, none⟩), .int .i64 h.n]) rfl rfl (fun _ => by first | (go_simp; done) | (go_simp; rfl)) (fun w' hC => (isNode_at (HM2.out.ext hC) h.n).mono (fun e w'' hh => by rw [Hn.out] at hh; exact ⟨hh.1, hh.2 ▸ Ext.refl _⟩)) (by simp only [List.set_cons_zero, List.set_cons_succ]; rfl) ?_
    iterate 8
      first
        | refine Fx.skip rfl rfl (by simp only [List.set_cons_zero, List.set_cons_succ]; rfl) ?_
        | (with_reducible refine Fx.lab0 ?_
           first
             | refine Fx.moveT rfl rfl rfl (by simp only [List.set_cons_zero, List.set_cons_succ]; rfl) ?_
             | refine Fx.assignT rfl rfl rfl (by simp only [List.set_cons_zero, List.set_cons_succ]; rfl) ?_
             | refine Fx.pure_ rfl rfl (fun _ => by go_simp; first | done | rfl) (by simp only [List.set_cons_zero, List.set_cons_succ]; rfl) ?_)
        | (with_reducible refine Fx.lab1 ?_
           refine Fx.look rfl rfl (fun w' hC => by obtain ⟨hc, hf, hl⟩ := Ext.cells hC; go_simp; rfl) (by simp only [List.set_cons_zero, List.set_cons_succ]; rfl) ?_)
    refine Fx.done (fun w3 hC => ?_)
    go_wp2
    exact HF.out _ hC
end Go.Proofs.Ytfnchpjiebojiaa
