/-
  rostrumref11.Follower: Marks; rostrumref06.SameMarks; a message stored within a numbered one.
-/
import Derived.Test.YtokljdkeegdniaaPlainW
namespace Go.Proofs.Ytokljdkeegdniaa
open Go.RowKit
attribute [local go_sem] Oper.semAt_some

theorem Sl.at1V {w : World} {A : Option Addr} {n cap : Nat} {l : List Int} (h : UL w (.slice A n cap) l) {j : Nat} (hj : j < l.length) :
    ∃ b off, A = some ⟨b, off, none⟩ ∧ b < w.heap.size ∧ w.cell? ⟨b, off + j, none⟩ = some (.int .u32 l[j]) := by
  obtain ⟨A', cap', e, _, _, hc⟩ := h
  injection e with e1 e2 e3
  subst e1
  obtain ⟨b, off, rfl, hlt, hcell⟩ := hc (fun e => by rw [e] at hj; simp at hj)
  have := hcell j _ (List.getElem?_eq_getElem hj) 0 _ rfl
  simp only [Nat.mul_one, Nat.add_zero] at this
  exact ⟨b, off, rfl, hlt, this⟩
set_option maxRecDepth 100000 in
set_option maxHeartbeats 1600000 in
theorem marks_ref {w : World} {r : Nat} {wv bv : Value} {σ : FwSt} (h : RfAt w r wv bv σ) : Calls Try.prog 19 #[.pointer (some ⟨r, 0, none⟩)] w fun e w' => (∃ B, e = .returned (.slice (some ⟨B, 0, none⟩) 4 4) ∧ UL w' (.slice (some ⟨B, 0, none⟩) 4 4) (marksL σ)) ∧ Ext w w' := by
  obtain ⟨ep, hep⟩ : ∃ ep, σ.ep = ep := ⟨_, rfl⟩
  obtain ⟨nx, hnx⟩ : ∃ nx, σ.nx = nx := ⟨_, rfl⟩
  obtain ⟨n1, hn1⟩ : ∃ n, σ.wt.length = n := ⟨_, rfl⟩
  obtain ⟨n2, hn2⟩ : ∃ n, σ.bf.length = n := ⟨_, rfl⟩
  have hml : marksL σ = [ep, nx, IntKind.u32.wrap n1, IntKind.u32.wrap n2] := by unfold marksL; rw [hep, hnx, hn1, hn2]
  have Hml := Lib.hid hml
  obtain ⟨wA, wcap, hwv, -⟩ := h.w_.val
  obtain ⟨bA, bcap, hbv, -⟩ := h.b_.val
  rw [List.length_map, hn1] at hwv
  rw [List.length_map, hn2] at hbv
  obtain ⟨c0, c1, c2, c3, lb⟩ := h.cells
  rw [hep] at c0
  rw [hnx] at c1
  rw [hwv] at c2
  rw [hbv] at c3
  clear h hep hnx hn1 hn2 hml hwv hbv
  go_enter Try.func19, Try.ntmps19
  go_upto_region 1 with fail
  refine wp_region_plan [(0,0),(1,0),(2,0),(3,1),(4,0),(5,0),(6,0),(7,1),(8,0),(9,0),(10,0),(11,1),(12,0),(13,0),(14,0),(15,0),(16,0),(17,1),(18,0),(19,0),(20,2),(21,0)] (by kernel_rfl) (by kernel_rfl) (by kernel_rfl) (Ext w) (fun _ _ h k => h.trans k) (Ext.drawn _ _) ?_
  iterate 20
    first
      | refine Fx.skip rfl rfl (by simp only [List.set_cons_zero, List.set_cons_succ]; rfl) ?_
      | (with_reducible refine Fx.lab0 ?_
         first
           | refine Fx.moveT rfl rfl rfl (by simp only [List.set_cons_zero, List.set_cons_succ]; rfl) ?_
           | refine Fx.assignT rfl rfl rfl (by simp only [List.set_cons_zero, List.set_cons_succ]; rfl) ?_
           | refine Fx.pure_ rfl rfl (fun _ => by go_simp; first | done | rfl) (by simp only [List.set_cons_zero, List.set_cons_succ]; rfl) ?_)
      | (with_reducible refine Fx.lab1 ?_
         refine Fx.look rfl rfl (fun w' hC => by obtain ⟨hc, hf, hl⟩ := Ext.cells hC; go_simp; rfl) (by simp only [List.set_cons_zero, List.set_cons_succ]; rfl) ?_)
  refine Fx.mkSl 4 4 (fun B w' => w.heap.size ≤ B ∧ UL w' (.slice (some ⟨B, 0, none⟩) 4 4) [ep, nx, IntKind.u32.wrap n1, IntKind.u32.wrap n2]) (fun B _ _ h k => ⟨h.1, h.2.ext k⟩) rfl rfl (fun w' hC => stepAt_lit4U hC rfl rfl rfl rfl) (fun B => ?_)
  simp only [List.set_cons_zero, List.set_cons_succ]
  first
    | refine Fx.skip rfl rfl (by simp only [List.set_cons_zero, List.set_cons_succ]; rfl) ?_
    | (with_reducible refine Fx.lab0 ?_
       first
         | refine Fx.moveT rfl rfl rfl (by simp only [List.set_cons_zero, List.set_cons_succ]; rfl) ?_
         | refine Fx.assignT rfl rfl rfl (by simp only [List.set_cons_zero, List.set_cons_succ]; rfl) ?_
         | refine Fx.pure_ rfl rfl (fun _ => by go_simp; first | done | rfl) (by simp only [List.set_cons_zero, List.set_cons_succ]; rfl) ?_)
    | (with_reducible refine Fx.lab1 ?_
       refine Fx.look rfl rfl (fun w' hC => by obtain ⟨hc, hf, hl⟩ := Ext.cells hC; go_simp; rfl) (by simp only [List.set_cons_zero, List.set_cons_succ]; rfl) ?_)
  refine Fx.done (fun w3 hC => ?_)
  have HC := Lib.hid hC
  clear hC c0 c1 c2 c3 lb
  go_wp2
  go_ret
  exact ⟨⟨B, rfl, by rw [Hml.out]; exact HC.out.2.2⟩, HC.out.1⟩
set_option maxRecDepth 100000 in
set_option maxHeartbeats 1600000 in
/-- Of two lists that read alike. -/
theorem same_marks {w : World} {v v' : Value} (l : List Int) (hl : UL w v l) (hl' : UL w v' l) (hlen : l.length ≤ 1000000) : Calls Try.prog 17 #[v, v'] w fun e w' => e = .returned (.bool true) ∧ Ext w w' := by
  obtain ⟨A, cap, rfl, -⟩ := hl.val
  obtain ⟨A', cap', rfl, -⟩ := hl'.val
  have HL := Lib.hid hl
  have HL' := Lib.hid hl'
  clear hl hl'
  go_enter Try.func17, Try.ntmps17
  go_wp2
  go_loopw [5] (fun q wr => ∃ (k : Nat), q = .int .i64 k ∧ k ≤ l.length ∧ Hid (Ext w wr)) (fun q _ => l.length - (intOf q).toNat)
  case atStart => exact ⟨0, rfl, Nat.zero_le _, Lib.hid (Ext.refl _)⟩
  case round =>
    obtain ⟨k, rfl, hk, hE⟩ := hrel
    by_cases hlt : k < l.length
    · have hwk : IntKind.i64.wrap ((k : Int) + 1) = (k : Int) + 1 := IntWalk.i64_in _ ⟨by omega, by omega⟩
      obtain ⟨jb, joff, rfl, jl, j0⟩ := Sl.at1V (HL.out.ext hE.out) hlt
      obtain ⟨ib, ioff, rfl, il, i0⟩ := Sl.at1V (HL'.out.ext hE.out) hlt
      generalize l[k] = x at *
      go_upto_region 6 with fail
      refine wp_region_plan [(0,0),(1,0),(2,0),(3,1),(4,0),(5,0),(6,0),(7,1),(8,0)] (by kernel_rfl) (by kernel_rfl) (by kernel_rfl) (Ext wr) (fun _ _ h k => h.trans k) (Ext.drawn _ _) ?_
      iterate 8
        first
          | refine Fx.skip rfl rfl (by simp only [List.set_cons_zero, List.set_cons_succ]; rfl) ?_
          | (with_reducible refine Fx.lab0 ?_
             first
               | refine Fx.moveT rfl rfl rfl (by simp only [List.set_cons_zero, List.set_cons_succ]; rfl) ?_
               | refine Fx.assignT rfl rfl rfl (by simp only [List.set_cons_zero, List.set_cons_succ]; rfl) ?_
               | refine Fx.pure_ rfl rfl (fun _ => by go_simp; first | done | rfl) (by simp only [List.set_cons_zero, List.set_cons_succ]; rfl) ?_)
          | (with_reducible refine Fx.lab1 ?_
             refine Fx.look rfl rfl (fun w' hC => by obtain ⟨hc, hf, hl⟩ := Ext.cells hC; go_simp; rfl) (by simp only [List.set_cons_zero, List.set_cons_succ]; rfl) ?_)
      refine Fx.pure_ (v := .bool false) rfl rfl (fun _ => by first | (go_simp; done) | (go_simp; rfl)) (by simp only [List.set_cons_zero, List.set_cons_succ]; rfl) ?_
      refine Fx.done (fun w3 hC => ?_)
      have HC := Lib.hid (hE.out.trans hC)
      clear hC j0 i0 jl il
      go_wp2
      go_roundw
      case rel => exact ⟨k + 1, by go_num, by omega, HC⟩
      case measure => simp [intOf]; omega
    · have hkn : k = l.length := by omega
      go_wp2
      go_ret
      exact ⟨rfl, hE.out⟩
/-- The message of a numbered one, set. -/
theorem stepAt_store_Mn {a : Act} {d : Option Tmp} {t : TypeId} {s : String} {af : Array Edge} {g : Option (Nat × Bool)} {w : World} {B : Nat} {y : Nb} {q x : Operand} (h : Obj_ w B 5 (nbF y)) (m : Ms) (hq : a.eval q = .pointer (some ⟨B, 2, none⟩)) (hx : a.eval x = m.val) :
    stepAt Try.prog ⟨d, .store 34 q x, t, s, af, g⟩ a w (fun _ w' => Mods (· = B) w w' ∧ Obj_ w' B 5 (nbF ⟨y.e, y.n, m⟩)) := by
  have h1 := h.set (i := 2) (by omega) (.int .i64 m.f)
  have h2 := h1.set (i := 3) (by omega) (.int .u32 m.c)
  have c0 := h.cell 2 (by omega)
  have c1 := h1.cell 3 (by omega)
  have c2 := h2.cell 4 (by omega)
  have f0 := h.free 2
  have f1 := h1.free 3
  have f2 := h2.free 4
  have hr : (Instr.storeAt 34 (.pointer (some ⟨B, 2, none⟩)) m.val).run Try.prog w = .ok () (((w.setCell ⟨B, 2, none⟩ (.int .i64 m.f)).setCell ⟨B, 3, none⟩ (.int .u32 m.c)).setCell ⟨B, 4, none⟩ (.string m.d)) := by
    unfold Ms.val
    simp [Instr.storeAt, Instr.sureAddr, storeVar, Try.sizeOf34, Value.cells, storeCells, store, Sem.run, Addr.add, c0, c1, c2, f0, f1, f2]
  unfold stepAt
  simp only [execOp, hq, hx, Sem.run_bind, hr, Result.andThen_ok]
  refine ⟨((Mods.setCell w B 2 _).trans (Mods.setCell _ B 3 _) (fun _ _ h => h)).trans (Mods.setCell _ B 4 _) (fun _ _ h => h), ?_⟩
  refine (h2.set (i := 4) (by omega) _).congr fun i hi => ?_
  match i, hi with
  | 0, _ => rfl
  | 1, _ => rfl
  | 2, _ => rfl
  | 3, _ => rfl
  | 4, _ => rfl
end Go.Proofs.Ytokljdkeegdniaa
