/-
  Bytes: a literal slice of bytes as a string; Put of both packages.
-/
import Derived.Test.YtbjondnombnpbaaHas
import Derived.Laws.BytesArg
import Derived.Laws.Shifts
namespace Go.Proofs.Ytbjondnombnpbaa
open Go.RowKit
attribute [local go_sem] Oper.semAt_some

def byE (x : Int) : List Value := [.int .u8 x]
theorem byE_len (x : Int) : (byE x).length = 1 := rfl
theorem byE_one (x : Int) : ∀ u ∈ byE x, u.oneCell' = true := by intro u hu; simp [byE] at hu; subst hu; rfl
abbrev ByL (w : World) (v : Value) (l : List Int) : Prop := Sl byE 1 w v l
theorem flat_byE (l : List Int) : l.flatMap byE = l.map (Value.int .u8) := by
  induction l with
  | nil => rfl
  | cons x t ih => simp [byE, ih]
theorem run_conv {w : World} {v : Value} {l : List Int} (h : ByL w v l) : (convert 59 9 v).run Try.prog w = .ok (.string (strOfNums l)) w := by
  obtain ⟨A, cap, rfl, h1, h2, h3⟩ := h
  by_cases hl : l = []
  · subst hl
    cases A with
    | none => exact run_convert_bytes_nil w 59 5 Try.underlying59 Try.underlying5 0 cap _ Try.underlying9
    | some a =>
      rw [run_convert_bytes_string w _ _ _ _ _ _ Try.underlying59 Try.underlying5 Try.underlying9]
      have := run_bytesToString (P := Try.prog) w a 0 cap [] (by simp [loadCells, loadCellsFrom, Sem.run])
      exact this
  · obtain ⟨b, off, rfl, hb, hc⟩ := h3 hl
    refine run_convert_bytes_arg w 59 5 Try.underlying59 Try.underlying5 b off l.length cap l rfl (fun i hi => ?_) _ Try.underlying9
    have := hc i l[i] (List.getElem?_eq_getElem hi) 0 (.int .u8 l[i]) rfl
    rw [Nat.mul_one, Nat.add_zero] at this
    rw [this, List.getD_eq_getElem?_getD, List.getElem?_eq_getElem hi]; rfl
theorem op_conv {a : Operand → Value} {d : Option Tmp} {x : Operand} {t : TypeId} {s : String} {af : Array Edge} {g : Option (Nat × Bool)} {w : World} {v : Value} {l : List Int} (h : ByL w v l) (hx : a x = v) :
    (execOp a ⟨d, .convert 59 9 x, t, s, af, g⟩).run Try.prog w = .ok (.value (.string (strOfNums l))) w := by
  simp only [execOp, hx, Sem.run_bind, run_conv h, Result.andThen_ok]; rfl
section
variable {a : Act} {d : Option Tmp} {t : TypeId} {s : String} {af : Array Edge} {g : Option (Nat × Bool)} {W w : World}
theorem run_lit1B (x : Int) (w : World) : (Instr.buildSlice 59 1 #[(0, .int .u8 x)]).run Try.prog w = .ok (.slice (some ⟨w.heap.size, 0, none⟩) 1 1) (w.alloc (.cells #[.int .u8 x] 5)) := by
  simp [go_sem, Try.zeroValue5, Try.sizeOf5, Instr.buildSlice, run_underlying Try.underlying59]
theorem stepAt_lit1B {x : Operand} (hC : Ext W w) (m : Int) (hx : a.eval x = .int .u8 m) :
    stepAt Try.prog ⟨d, .buildSlice 59 1 #[(0, x)], t, s, af, g⟩ a w (fun u w' => ∃ b, u = .slice (some ⟨b, 0, none⟩) 1 1 ∧ Ext w w' ∧ ByL w' (.slice (some ⟨b, 0, none⟩) 1 1) [m]) := by
  unfold stepAt
  simp only [execOp, Sem.run_bind, List.map_toArray, List.map_cons, List.map_nil, hx, run_lit1B m w, Result.andThen_ok]
  exact ⟨_, rfl, Ext.alloc _ _, (Own.lit (enc := byE) byE_len w [m] (by unfold maxLen; simp) (by simp) (cs := byE m) (by simp)).sl byE_len⟩
theorem run_lit4B (x y z u : Int) (w : World) : (Instr.buildSlice 59 4 #[(0, .int .u8 x), (1, .int .u8 y), (2, .int .u8 z), (3, .int .u8 u)]).run Try.prog w = .ok (.slice (some ⟨w.heap.size, 0, none⟩) 4 4) (w.alloc (.cells #[.int .u8 x, .int .u8 y, .int .u8 z, .int .u8 u] 5)) := by
  simp [go_sem, Try.zeroValue5, Try.sizeOf5, Instr.buildSlice, run_underlying Try.underlying59]
theorem stepAt_lit4B {p q r o : Operand} {x y z u : Int} (hC : Ext W w) (hp : a.eval p = .int .u8 x) (hq : a.eval q = .int .u8 y) (hr : a.eval r = .int .u8 z) (ho : a.eval o = .int .u8 u) :
    stepAt Try.prog ⟨d, .buildSlice 59 4 #[(0, p), (1, q), (2, r), (3, o)], t, s, af, g⟩ a w (fun v w' => ∃ b, v = .slice (some ⟨b, 0, none⟩) 4 4 ∧ Ext w w' ∧ ByL w' (.slice (some ⟨b, 0, none⟩) 4 4) [x, y, z, u]) := by
  unfold stepAt
  simp only [execOp, Sem.run_bind, List.map_toArray, List.map_cons, List.map_nil, hp, hq, hr, ho, run_lit4B x y z u w, Result.andThen_ok]
  exact ⟨_, rfl, Ext.alloc _ _, (Own.lit (enc := byE) byE_len w [x, y, z, u] (by unfold maxLen; simp) (by simp) (cs := [.int .u8 x, .int .u8 y, .int .u8 z, .int .u8 u]) (by simp [byE])).sl byE_len⟩
end
def putL (n : Int) : List Int := [IntKind.u8.wrap n, IntKind.u8.wrap (n / 256), IntKind.u8.wrap (n / 65536), IntKind.u8.wrap (n / 16777216)]
theorem text_at (w : World) (v : Value) (l : List Int) (h : ByL w v l) : Calls Try.prog 42 #[v] w fun e w' => e = .returned (.string (strOfNums l)) ∧ w' = w := by
  have hr := run_conv h
  have hr2 := fun (d : Option Tmp) (t : TypeId) (s : String) (af : Array Edge) => op_conv (a := fun _ => v) (d := d) (x := .tmp 3) (t := t) (s := s) (af := af) (g := none) h rfl
  obtain ⟨A, cap, rfl, -⟩ := h.val
  clear hr2 h
  go_enter Try.func42, Try.ntmps42
  go_wp2
  go_ret
  exact ⟨rfl, rfl⟩
set_option maxRecDepth 100000 in
theorem put_ref (n : Int) (w : World) : Calls Try.prog 32 #[.int .u32 n] w fun e w' => e = .returned (.string (strOfNums (putL n))) ∧ Ext w w' := by
  go_enter Try.func32, Try.ntmps32
  go_upto_region 1 with fail
  refine wp_region_line [(0,0),(1,0),(2,0),(3,0),(4,0),(5,0),(6,0),(7,0),(8,0),(9,0),(10,0),(11,2),(12,1),(13,0)] (by kernel_rfl) (by kernel_rfl) (Ext w) (fun _ _ h k => h.trans k) (Ext.refl _) ?_
  iterate 11
    first
      | refine Fx.skip rfl rfl (by simp only [List.set_cons_zero, List.set_cons_succ]; rfl) ?_
      | (with_reducible refine Fx.lab0 ?_
         first
           | refine Fx.moveT rfl rfl rfl (by simp only [List.set_cons_zero, List.set_cons_succ]; rfl) ?_
           | refine Fx.assignT rfl rfl rfl (by simp only [List.set_cons_zero, List.set_cons_succ]; rfl) ?_
           | refine Fx.pure_ rfl rfl (fun _ => by go_simp; first | done | rfl) (by simp only [List.set_cons_zero, List.set_cons_succ]; rfl) ?_)
      | (with_reducible refine Fx.lab1 ?_
         refine Fx.look rfl rfl (fun w' hC => by obtain ⟨hc, hf, hl⟩ := Ext.cells hC; go_simp; rfl) (by simp only [List.set_cons_zero, List.set_cons_succ]; rfl) ?_)
  refine Fx.mkSl 4 4 (fun B w' => ByL w' (.slice (some ⟨B, 0, none⟩) 4 4) (putL n)) (fun B _ _ h k => h.ext k) rfl rfl (fun w' hC => stepAt_lit4B hC rfl rfl rfl rfl) (fun B => ?_)
  simp only [List.set_cons_zero, List.set_cons_succ]
  refine Fx.look rfl rfl (fun w' hC => op_conv hC.2 rfl) (by simp only [List.set_cons_zero, List.set_cons_succ]; rfl) ?_
  first
    | refine Fx.skip rfl rfl (by simp only [List.set_cons_zero, List.set_cons_succ]; rfl) ?_
    | (with_reducible refine Fx.lab0 ?_
       first
         | refine Fx.moveT rfl rfl rfl (by simp only [List.set_cons_zero, List.set_cons_succ]; rfl) ?_
         | refine Fx.assignT rfl rfl rfl (by simp only [List.set_cons_zero, List.set_cons_succ]; rfl) ?_
         | refine Fx.pure_ rfl rfl (fun _ => by go_simp; first | done | rfl) (by simp only [List.set_cons_zero, List.set_cons_succ]; rfl) ?_)
    | (with_reducible refine Fx.lab1 ?_
       refine Fx.look rfl rfl (fun w' hC => by obtain ⟨hc, hf, hl⟩ := Ext.cells hC; go_simp; rfl) (by simp only [List.set_cons_zero, List.set_cons_succ]; rfl) ?_)
  refine Fx.done (fun w1 hC => ?_)
  have HC := Lib.hid hC.1
  clear hC
  go_wp2
  go_ret
  exact ⟨rfl, HC.out⟩
set_option maxRecDepth 100000 in
theorem put_crc (n : Int) (w : World) : Calls Try.prog 30 #[.int .u32 n] w fun e w' => e = .returned (.string (strOfNums (putL n))) ∧ Ext w w' := by
  go_enter Try.func30, Try.ntmps30
  go_upto_region 1 with fail
  refine wp_region_line [(0,0),(1,0),(2,0),(3,0),(4,0),(5,0),(6,0),(7,0),(8,0),(9,0),(10,0),(11,2),(12,1),(13,0)] (by kernel_rfl) (by kernel_rfl) (Ext w) (fun _ _ h k => h.trans k) (Ext.refl _) ?_
  iterate 11
    first
      | refine Fx.skip rfl rfl (by simp only [List.set_cons_zero, List.set_cons_succ]; rfl) ?_
      | (with_reducible refine Fx.lab0 ?_
         first
           | refine Fx.moveT rfl rfl rfl (by simp only [List.set_cons_zero, List.set_cons_succ]; rfl) ?_
           | refine Fx.assignT rfl rfl rfl (by simp only [List.set_cons_zero, List.set_cons_succ]; rfl) ?_
           | refine Fx.pure_ rfl rfl (fun _ => by go_simp; first | done | rfl) (by simp only [List.set_cons_zero, List.set_cons_succ]; rfl) ?_)
      | (with_reducible refine Fx.lab1 ?_
         refine Fx.look rfl rfl (fun w' hC => by obtain ⟨hc, hf, hl⟩ := Ext.cells hC; go_simp; rfl) (by simp only [List.set_cons_zero, List.set_cons_succ]; rfl) ?_)
  refine Fx.mkSl 4 4 (fun B w' => ByL w' (.slice (some ⟨B, 0, none⟩) 4 4) (putL n)) (fun B _ _ h k => h.ext k) rfl rfl (fun w' hC => stepAt_lit4B hC rfl rfl rfl rfl) (fun B => ?_)
  simp only [List.set_cons_zero, List.set_cons_succ]
  refine Fx.call1 (v := .string (strOfNums (putL n))) (args := #[.slice (some ⟨B, 0, none⟩) 4 4]) rfl rfl (fun _ => by first | (go_simp; done) | (go_simp; rfl)) (fun w' hC => (text_at w' _ _ hC.2).mono (fun e w'' hh => ⟨hh.1, by rw [hh.2]; exact Ext.refl _⟩)) (by simp only [List.set_cons_zero, List.set_cons_succ]; rfl) ?_
  first
    | refine Fx.skip rfl rfl (by simp only [List.set_cons_zero, List.set_cons_succ]; rfl) ?_
    | (with_reducible refine Fx.lab0 ?_
       first
         | refine Fx.moveT rfl rfl rfl (by simp only [List.set_cons_zero, List.set_cons_succ]; rfl) ?_
         | refine Fx.assignT rfl rfl rfl (by simp only [List.set_cons_zero, List.set_cons_succ]; rfl) ?_
         | refine Fx.pure_ rfl rfl (fun _ => by go_simp; first | done | rfl) (by simp only [List.set_cons_zero, List.set_cons_succ]; rfl) ?_)
    | (with_reducible refine Fx.lab1 ?_
       refine Fx.look rfl rfl (fun w' hC => by obtain ⟨hc, hf, hl⟩ := Ext.cells hC; go_simp; rfl) (by simp only [List.set_cons_zero, List.set_cons_succ]; rfl) ?_)
  refine Fx.done (fun w1 hC => ?_)
  have HC := Lib.hid hC.1
  clear hC
  go_wp2
  go_ret
  exact ⟨rfl, HC.out⟩
end Go.Proofs.Ytbjondnombnpbaa
