/-
  Numbered messages, places; their operations.
-/
import Derived.Test.YtokljdkeegdniaaOps
import Derived.Test.YtokljdkeegdniaaMapRange
namespace Go.Proofs.Ytokljdkeegdniaa
open Go.RowKit

structure Nb where
  e : Int
  n : Int
  m : Ms
deriving DecidableEq
def Nb.enc (x : Nb) : List Value := [.int .u32 x.e, .int .u32 x.n, .int .i64 x.m.f, .int .u32 x.m.c, .string x.m.d]
def Nb.val (x : Nb) : Value := .agg #[.int .u32 x.e, .int .u32 x.n, .int .i64 x.m.f, .int .u32 x.m.c, .string x.m.d]
theorem Nb.len (x : Nb) : x.enc.length = 5 := rfl
theorem Nb.one (x : Nb) : ∀ u ∈ x.enc, u.oneCell' = true := by intro u hu; simp [Nb.enc] at hu; rcases hu with rfl | rfl | rfl | rfl | rfl <;> rfl
abbrev NbL (w : World) (v : Value) (l : List Nb) : Prop := Sl Nb.enc 5 w v l
def nb0 : Nb := ⟨0, 0, ms0⟩
def nbF (x : Nb) : Nat → Value := fun i => x.enc.getD i undef
theorem Sl.at5 {w : World} {A : Option Addr} {n cap : Nat} {l : List Nb} (h : NbL w (.slice A n cap) l) {j : Nat} (hj : j < l.length) :
    ∃ b off, A = some ⟨b, off, none⟩ ∧ b < w.heap.size ∧ w.cell? ⟨b, off + j * 5, none⟩ = some (.int .u32 l[j].e) ∧ w.cell? ⟨b, off + j * 5 + 1, none⟩ = some (.int .u32 l[j].n) ∧
      w.cell? ⟨b, off + j * 5 + 2, none⟩ = some (.int .i64 l[j].m.f) ∧ w.cell? ⟨b, off + j * 5 + 3, none⟩ = some (.int .u32 l[j].m.c) ∧ w.cell? ⟨b, off + j * 5 + 4, none⟩ = some (.string l[j].m.d) := by
  obtain ⟨A', cap', e, _, _, hc⟩ := h
  injection e with e1 e2 e3
  subst e1
  obtain ⟨b, off, rfl, hlt, hcell⟩ := hc (fun e => by rw [e] at hj; simp at hj)
  have := hcell j _ (List.getElem?_eq_getElem hj)
  exact ⟨b, off, rfl, hlt, this 0 _ rfl, this 1 _ rfl, this 2 _ rfl, this 3 _ rfl, this 4 _ rfl⟩
theorem box_Nb (w : World) (x : Nb) : Obj_ (w.alloc (.cells #[.int .u32 x.e, .int .u32 x.n, .int .i64 x.m.f, .int .u32 x.m.c, .string x.m.d] 36)) w.heap.size 5 (nbF x) :=
  Obj_.new w _ #[.int .u32 x.e, .int .u32 x.n, .int .i64 x.m.f, .int .u32 x.m.c, .string x.m.d] _ (by intro i hi; simp at hi; match i, hi with | 0, _ => rfl | 1, _ => rfl | 2, _ => rfl | 3, _ => rfl | 4, _ => rfl)
structure NbCells (w : World) (b o : Nat) (x : Nb) : Prop where
  c0 : w.cell? ⟨b, o, none⟩ = some (.int .u32 x.e)
  c1 : w.cell? ⟨b, o + 1, none⟩ = some (.int .u32 x.n)
  c2 : w.cell? ⟨b, o + 2, none⟩ = some (.int .i64 x.m.f)
  c3 : w.cell? ⟨b, o + 3, none⟩ = some (.int .u32 x.m.c)
  c4 : w.cell? ⟨b, o + 4, none⟩ = some (.string x.m.d)
theorem Obj_.nb {w : World} {b : Nat} {x : Nb} (h : Obj_ w b 5 (nbF x)) : NbCells w b 0 x := ⟨h.cell 0 (by decide), h.cell 1 (by decide), h.cell 2 (by decide), h.cell 3 (by decide), h.cell 4 (by decide)⟩
theorem Sl.atN {w : World} {A : Option Addr} {n cap : Nat} {l : List Nb} (h : NbL w (.slice A n cap) l) {j : Nat} (hj : j < l.length) :
    ∃ b off, A = some ⟨b, off, none⟩ ∧ b < w.heap.size ∧ NbCells w b (off + j * 5) l[j] := by
  obtain ⟨b, off, h0, h1, h2, h3, h4, h5, h6⟩ := Sl.at5 h hj
  exact ⟨b, off, h0, h1, h2, h3, h4, h5, h6⟩
theorem NbCells.ext {w w' : World} {b o : Nat} {x : Nb} (h : NbCells w b o x) (he : Ext w w') (hb : b < w.heap.size) : NbCells w' b o x := by
  have hc := he.cells.1
  exact ⟨(hc _ _ hb).trans h.c0, (hc _ _ hb).trans h.c1, (hc _ _ hb).trans h.c2, (hc _ _ hb).trans h.c3, (hc _ _ hb).trans h.c4⟩
theorem NbCells.mods {w w' : World} {S : Nat → Prop} {b o : Nat} {x : Nb} (h : NbCells w b o x) (he : Mods S w w') (hb : b < w.heap.size) (hS : ¬ S b) : NbCells w' b o x := by
  have hc := he.cells.1
  exact ⟨(hc _ _ hb hS).trans h.c0, (hc _ _ hb hS).trans h.c1, (hc _ _ hb hS).trans h.c2, (hc _ _ hb hS).trans h.c3, (hc _ _ hb hS).trans h.c4⟩
theorem NbCells.ms {w : World} {b o : Nat} {x : Nb} (h : NbCells w b o x) : w.cell? ⟨b, o + 2, none⟩ = some (.int .i64 x.m.f) ∧ w.cell? ⟨b, o + 2 + 1, none⟩ = some (.int .u32 x.m.c) ∧ w.cell? ⟨b, o + 2 + 2, none⟩ = some (.string x.m.d) := ⟨h.c2, h.c3, h.c4⟩
theorem run_load_Nb {a : Value} {b o : Nat} {x : Nb} {w : World} (ha : a = .pointer (some ⟨b, o, none⟩)) (h : NbCells w b o x) : (Instr.loadAt 36 a).run Try.prog w = .ok x.val w := by
  subst ha
  obtain ⟨c0, c1, c2, c3, c4⟩ := h
  unfold Nb.val
  simp [go_sem, c0, c1, c2, c3, c4, Try.isAgg36, Try.sizeOf36]
theorem op_load_Nb' {W : World} {ρ : Operand → Value} {d : Option Tmp} {x : Operand} {t : TypeId} {s : String} {af : Array Edge} {g : Option (Nat × Bool)} {b o : Nat} {m : Nb} (hlt : b < W.heap.size)
    (h : NbCells W b o m) (hx : ρ x = .pointer (some ⟨b, o, none⟩)) :
    ∀ w, Ext W w → (execOp ρ ⟨d, .load 36 x, t, s, af, g⟩).run Try.prog w = .ok (.value m.val) w := fun w hE => by
  simp only [execOp, Sem.run_bind, run_load_Nb hx (h.ext hE hlt), Result.andThen_ok]; rfl
section
variable {a : Act} {d : Option Tmp} {t : TypeId} {s : String} {af : Array Edge} {g : Option (Nat × Bool)} {W w : World}
theorem run_alloc_Nb (w : World) : (Instr.alloc 36 true (.tuple #[])).run Try.prog w = .ok (.pointer (some ⟨w.heap.size, 0, none⟩)) (w.alloc (.cells #[.int .u32 nb0.e, .int .u32 nb0.n, .int .i64 nb0.m.f, .int .u32 nb0.m.c, .string nb0.m.d] 36)) := by
  simp [go_sem, Try.zeroValue36, nb0, ms0]
theorem stepAt_alloc_Nb (hC : Ext W w) : stepAt Try.prog ⟨d, .alloc 36, t, s, af, g⟩ a w (fun u w' => ∃ b, u = .pointer (some ⟨b, 0, none⟩) ∧ Ext w w' ∧ W.heap.size ≤ b ∧ Obj_ w' b 5 (nbF nb0)) := by
  unfold stepAt
  simp only [execOp, Sem.run_bind, run_alloc_Nb, Result.andThen_ok]
  exact ⟨_, rfl, Ext.alloc _ _, hC.size, box_Nb w nb0⟩
theorem run_store_Nb {B : Nat} {f : Nat → Value} (h : Obj_ w B 5 f) (m : Nb) {q x : Value} (hq : q = .pointer (some ⟨B, 0, none⟩)) (hx : x = m.val) :
    (Instr.storeAt 36 q x).run Try.prog w = .ok () (((((w.setCell ⟨B, 0, none⟩ (.int .u32 m.e)).setCell ⟨B, 1, none⟩ (.int .u32 m.n)).setCell ⟨B, 2, none⟩ (.int .i64 m.m.f)).setCell ⟨B, 3, none⟩ (.int .u32 m.m.c)).setCell ⟨B, 4, none⟩ (.string m.m.d)) := by
  subst hq; subst hx
  have h1 := h.set (i := 0) (by omega) (.int .u32 m.e)
  have h2 := h1.set (i := 1) (by omega) (.int .u32 m.n)
  have h3 := h2.set (i := 2) (by omega) (.int .i64 m.m.f)
  have h4 := h3.set (i := 3) (by omega) (.int .u32 m.m.c)
  have c0 := h.cell 0 (by omega)
  have c1 := h1.cell 1 (by omega)
  have c2 := h2.cell 2 (by omega)
  have c3 := h3.cell 3 (by omega)
  have c4 := h4.cell 4 (by omega)
  have f0 := h.free 0
  have f1 := h1.free 1
  have f2 := h2.free 2
  have f3 := h3.free 3
  have f4 := h4.free 4
  unfold Nb.val
  simp [Instr.storeAt, Instr.sureAddr, storeVar, Try.sizeOf36, Value.cells, storeCells, store, Sem.run, Addr.add, c0, c1, c2, c3, c4, f0, f1, f2, f3, f4]
theorem stepAt_store_Nb {B : Nat} {f : Nat → Value} {q x : Operand} (hC : Ext W w) (hB : W.heap.size ≤ B) (h : Obj_ w B 5 f) (m : Nb) (hq : a.eval q = .pointer (some ⟨B, 0, none⟩)) (hx : a.eval x = m.val) :
    stepAt Try.prog ⟨d, .store 36 q x, t, s, af, g⟩ a w (fun _ w' => Ext W w' ∧ Obj_ w' B 5 (nbF m)) := by
  unfold stepAt
  simp only [execOp, Sem.run_bind, run_store_Nb h m hq hx, Result.andThen_ok]
  refine ⟨((((hC.setNew (p := ⟨B, 0, none⟩) hB _).setNew (p := ⟨B, 1, none⟩) hB _).setNew (p := ⟨B, 2, none⟩) hB _).setNew (p := ⟨B, 3, none⟩) hB _).setNew (p := ⟨B, 4, none⟩) hB _, ?_⟩
  refine (((((h.set (i := 0) (by omega) _).set (i := 1) (by omega) _).set (i := 2) (by omega) _).set (i := 3) (by omega) _).set (i := 4) (by omega) _).congr fun i hi => ?_
  match i, hi with
  | 0, _ => rfl
  | 1, _ => rfl
  | 2, _ => rfl
  | 3, _ => rfl
  | 4, _ => rfl
theorem infoNb : (Try.prog.info? 36).map (fun i => (i.zero, i.size, i.bytes)) = some (some (.agg #[.int .u32 0, .int .u32 0, .int .i64 0, .int .u32 0, .string ⟨#[]⟩]), 5, 40) := by kernel_rfl
abbrev OwnNb (w : World) (v : Value) (l : List Nb) : Prop := Own Nb.enc 5 36 w v l
theorem OwnNb.append {w : World} {v : Value} {l m : List Nb} {x : Value} {ty : TypeId} (h : OwnNb w v l) (hx : NbL w x m) (hlen : l.length + m.length ≤ 1073741824) :
    ∃ v' w', (Builtin.append_ #[28, 28] ty #[v, x]).run Try.prog w = .ok v' w' ∧ OwnNb w' v' (l ++ m) ∧ Mods (fun b => v.ownBlock = some b) w w' ∧
      (∀ b, v'.ownBlock = some b → v.ownBlock = some b ∨ w.heap.size ≤ b) := by
  obtain ⟨i0, hi, hz0, hz1, hz2⟩ := info_parts infoNb
  exact Own.append Nb.len Nb.one (by decide) Try.underlying28 hi hz0 hz1 rfl h hx hlen (by rw [hz2]; decide)
theorem run_lit1N (m : Nb) (w : World) {x : Value} (hx : x = m.val) : (Instr.buildSlice 28 1 #[(0, x)]).run Try.prog w = .ok (.slice (some ⟨w.heap.size, 0, none⟩) 1 1) (w.alloc (.cells #[.int .u32 m.e, .int .u32 m.n, .int .i64 m.m.f, .int .u32 m.m.c, .string m.m.d] 36)) := by
  subst hx
  unfold Nb.val
  simp [go_sem, Try.zeroValue36, Try.sizeOf36, Instr.buildSlice, run_underlying Try.underlying28]
theorem stepAt_lit1N {x : Operand} (hC : Ext W w) (m : Nb) (hx : a.eval x = m.val) :
    stepAt Try.prog ⟨d, .buildSlice 28 1 #[(0, x)], t, s, af, g⟩ a w (fun u w' => ∃ b, u = .slice (some ⟨b, 0, none⟩) 1 1 ∧ Ext w w' ∧ (W.heap.size ≤ b ∧ NbL w' (.slice (some ⟨b, 0, none⟩) 1 1) [m])) := by
  unfold stepAt
  simp only [execOp, Sem.run_bind, List.map_toArray, List.map_cons, List.map_nil, run_lit1N m w hx, Result.andThen_ok]
  exact ⟨_, rfl, Ext.alloc _ _, hC.size, (Own.lit (enc := Nb.enc) Nb.len w [m] (by unfold maxLen; simp) (by simp) (cs := m.enc) (by simp)).sl Nb.len⟩
theorem stepAt_appendN {q x : Operand} {v xv : Value} {l m : List Nb} (hC : Ext W w) (h : OwnNb w v l) (hx : NbL w xv m) (hlen : l.length + m.length ≤ 1073741824) (hq : a.eval q = v) (hxe : a.eval x = xv) :
    stepAt Try.prog ⟨d, .call { callee := .builtin .append, args := #[q, x], argTypes := #[28, 28] }, t, s, af, g⟩ a w
      (fun v' w' => OwnNb w' v' (l ++ m) ∧ Mods (fun b => v.ownBlock = some b) W w' ∧ (∀ b, v'.ownBlock = some b → v.ownBlock = some b ∨ W.heap.size ≤ b)) := by
  obtain ⟨v', w', hr, h1, h2, h3⟩ := h.append hx hlen (ty := t)
  unfold stepAt
  simp only [execOp, resolve, invoke, builtin, Sem.run_bind, Sem.run_pure, Result.andThen_ok, List.map_toArray, List.map_cons, List.map_nil, hq, hxe, hr]
  exact ⟨h1, h2.after hC, fun b hb => (h3 b hb).imp id (fun hh => Nat.le_trans hC.size hh)⟩
end

/-! ### places -/
def plV (k : Int × Int) : Value := .agg #[.int .u32 k.1, .int .u32 k.2]
set_option maxRecDepth 100000 in
theorem run_equalIn_Pl (n : Nat) (f c f' c' : Int) (w : World) :
    (Op.equalIn (n + 2) 86 (.agg #[.int .u32 f, .int .u32 c]) (.agg #[.int .u32 f', .int .u32 c'])).run Try.prog w = .ok (f == f' && c == c') w := by
  have hS : Try.prog.underlying 86 = some (.struct (Try.prog.fieldsOf 86)) := by kernel_rfl
  have hp : Try.prog.stoodInHeld 86 = false := by kernel_rfl
  rw [run_equalIn_agg w (n + 1) 86 _ _ hS hp]
  clear hS
  simp only [Program.fieldsOf, Try.underlying86]
  go_simp
  by_cases h1 : f = f' <;> by_cases h2 : c = c' <;> simp [h1, h2]
set_option maxRecDepth 100000 in
theorem run_equal_Pl (w : World) (a b : Int × Int) : (Op.equal 86 (plV a) (plV b)).run Try.prog w = .ok (decide (a = b)) w := by
  have := run_equalIn_Pl 9998 a.1 a.2 b.1 b.2 w
  unfold Op.equal plV
  rw [show Op.maxDepth = 9998 + 2 from rfl, this]
  congr 1
  obtain ⟨a1, a2⟩ := a
  obtain ⟨b1, b2⟩ := b
  by_cases h1 : a1 = b1 <;> by_cases h2 : a2 = b2 <;> simp [h1, h2]
theorem checkKey_Pl (w : World) (em : Bool) (k : Int × Int) : (Instr.checkKey em 10000 86 (plV k)).run Try.prog w = .ok () w := by
  have h : ∀ n, (Instr.checkKey em (n + 2) 86 (plV k)).run Try.prog w = .ok () w := fun n => by
    unfold plV
    simp [Instr.checkKey, run_underlying Try.underlying86, run_underlying Try.underlying22, part, Try.isAgg22]
  exact h 9998
theorem keysPl : KeyOps Try.prog 86 plV where
  find := findKey_asks _ Try.underlying86 (fun a b => rfl) run_equal_Pl
  check := checkKey_Pl
  stays w k := by
    have h : ∀ n, Instr.sameBits (n + 1) (plV k) (plV k) = true := fun n => by unfold plV; simp [Instr.sameBits]
    unfold Instr.keyThatStays
    rw [show (10000 : Nat) = 9999 + 1 from rfl, h]
    rfl
def plF (k : Int × Int) : Nat → Value := fun i => [Value.int .u32 k.1, .int .u32 k.2].getD i undef
section
variable {a : Act} {d : Option Tmp} {t : TypeId} {s : String} {af : Array Edge} {g : Option (Nat × Bool)} {W w : World}
theorem run_load_Pl {a : Value} {b o : Nat} {f c : Int} {w : World} (ha : a = .pointer (some ⟨b, o, none⟩)) (c0 : w.cell? ⟨b, o, none⟩ = some (.int .u32 f)) (c1 : w.cell? ⟨b, o + 1, none⟩ = some (.int .u32 c)) :
    (Instr.loadAt 86 a).run Try.prog w = .ok (.agg #[.int .u32 f, .int .u32 c]) w := by
  subst ha
  simp [go_sem, c0, c1, Try.isAgg86, Try.sizeOf86]
theorem op_load_Pl' {W : World} {ρ : Operand → Value} {d : Option Tmp} {x : Operand} {t : TypeId} {s : String} {af : Array Edge} {g : Option (Nat × Bool)} {b o : Nat} {f c : Int} (hlt : b < W.heap.size)
    (c0 : W.cell? ⟨b, o, none⟩ = some (.int .u32 f)) (c1 : W.cell? ⟨b, o + 1, none⟩ = some (.int .u32 c)) (hx : ρ x = .pointer (some ⟨b, o, none⟩)) :
    ∀ w, Ext W w → (execOp ρ ⟨d, .load 86 x, t, s, af, g⟩).run Try.prog w = .ok (.value (.agg #[.int .u32 f, .int .u32 c])) w := fun w h => by
  have hc := h.cells.1
  simp only [execOp, Sem.run_bind, run_load_Pl hx ((hc _ _ hlt).trans c0) ((hc _ _ hlt).trans c1), Result.andThen_ok]; rfl
theorem run_alloc_Pl (w : World) : (Instr.alloc 86 true (.tuple #[])).run Try.prog w = .ok (.pointer (some ⟨w.heap.size, 0, none⟩)) (w.alloc (.cells #[.int .u32 0, .int .u32 0] 86)) := by
  simp [go_sem, Try.zeroValue86]
theorem stepAt_alloc_Pl (hC : Ext W w) : stepAt Try.prog ⟨d, .alloc 86, t, s, af, g⟩ a w (fun u w' => ∃ b, u = .pointer (some ⟨b, 0, none⟩) ∧ Ext w w' ∧ W.heap.size ≤ b ∧ Obj_ w' b 2 (plF (0, 0))) := by
  unfold stepAt
  simp only [execOp, Sem.run_bind, run_alloc_Pl, Result.andThen_ok]
  exact ⟨_, rfl, Ext.alloc _ _, hC.size, Obj_.new w _ #[.int .u32 0, .int .u32 0] _ (by intro i hi; simp at hi; match i, hi with | 0, _ => rfl | 1, _ => rfl)⟩
theorem run_store_Pl {B : Nat} {f : Nat → Value} (h : Obj_ w B 2 f) (k : Int × Int) {q x : Value} (hq : q = .pointer (some ⟨B, 0, none⟩)) (hx : x = plV k) :
    (Instr.storeAt 86 q x).run Try.prog w = .ok () ((w.setCell ⟨B, 0, none⟩ (.int .u32 k.1)).setCell ⟨B, 1, none⟩ (.int .u32 k.2)) := by
  subst hq; subst hx
  have h1 := h.set (i := 0) (by omega) (.int .u32 k.1)
  have c0 := h.cell 0 (by omega)
  have c1 := h1.cell 1 (by omega)
  have f0 := h.free 0
  have f1 := h1.free 1
  unfold plV
  simp [Instr.storeAt, Instr.sureAddr, storeVar, Try.sizeOf86, Value.cells, storeCells, store, Sem.run, Addr.add, c0, c1, f0, f1]
theorem stepAt_store_Pl {B : Nat} {f : Nat → Value} {q x : Operand} (hC : Ext W w) (hB : W.heap.size ≤ B) (h : Obj_ w B 2 f) (k : Int × Int) (hq : a.eval q = .pointer (some ⟨B, 0, none⟩)) (hx : a.eval x = plV k) :
    stepAt Try.prog ⟨d, .store 86 q x, t, s, af, g⟩ a w (fun _ w' => Ext W w' ∧ Obj_ w' B 2 (plF k)) := by
  unfold stepAt
  simp only [execOp, Sem.run_bind, run_store_Pl h k hq hx, Result.andThen_ok]
  refine ⟨(hC.setNew (p := ⟨B, 0, none⟩) hB _).setNew (p := ⟨B, 1, none⟩) hB _, ?_⟩
  refine ((h.set (i := 0) (by omega) _).set (i := 1) (by omega) _).congr fun i hi => ?_
  match i, hi with
  | 0, _ => rfl
  | 1, _ => rfl
end
def idF (f c : Int) : Nat → Value := fun i => [Value.int .i64 f, .int .u32 c].getD i undef
theorem box_Id (w : World) (f c : Int) : Obj_ (w.alloc (.cells #[.int .i64 f, .int .u32 c] 32)) w.heap.size 2 (idF f c) :=
  Obj_.new w _ #[.int .i64 f, .int .u32 c] _ (by intro i hi; simp at hi; match i, hi with | 0, _ => rfl | 1, _ => rfl)
def MsPre (W : World) (B : Nat) (m : Ms) (w : World) : Prop := Ext W w ∧ W.heap.size ≤ B ∧ Obj_ w B 3 (msF m)
theorem msPre_stable (W : World) (B : Nat) (m : Ms) : StableF (MsPre W B m) := fun _ _ h k => ⟨h.1.trans k, h.2.1, h.2.2.ext k⟩
def NbPre (W : World) (B : Nat) (m : Nb) (w : World) : Prop := Ext W w ∧ W.heap.size ≤ B ∧ Obj_ w B 5 (nbF m)
theorem nbPre_stable (W : World) (B : Nat) (m : Nb) : StableF (NbPre W B m) := fun _ _ h k => ⟨h.1.trans k, h.2.1, h.2.2.ext k⟩
def PlPre (W : World) (B : Nat) (k : Int × Int) (w : World) : Prop := Ext W w ∧ W.heap.size ≤ B ∧ Obj_ w B 2 (plF k)
theorem plPre_stable (W : World) (B : Nat) (k : Int × Int) : StableF (PlPre W B k) := fun _ _ h k => ⟨h.1.trans k, h.2.1, h.2.2.ext k⟩
theorem lookVal (o : Option Ms) : ((o.map Ms.val).getD (.agg #[.int .i64 0, .int .u32 0, .string ⟨#[]⟩]) : Value) = (o.getD ms0).val := by cases o <;> rfl
theorem rightB_iff {m : Ms} : rightB m = true ↔ (0 ≤ m.f ∧ m.f < 16 ∧ 1 ≤ m.c ∧ m.c ≤ 4294967294 ∧ m.d.size ≤ 1000) := by unfold rightB; simp
end Go.Proofs.Ytokljdkeegdniaa
