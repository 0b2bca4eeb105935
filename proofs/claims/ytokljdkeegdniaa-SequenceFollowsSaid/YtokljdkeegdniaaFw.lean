/-
  sequence.Follower: where it lies; era, isNil, NewFollower; ready.
-/
import Derived.Test.YtokljdkeegdniaaPlainF
import Derived.Test.YtokljdkeegdniaaRange2
namespace Go.Proofs.Ytokljdkeegdniaa
open Go.RowKit
attribute [local go_sem] Oper.semAt_some

def fwF (e n : Int) (mw mb : Nat) (i : Nat) : Value := match i with | 0 => .int .u32 e | 1 => .int .u32 n | 2 => .map (some mw) | _ => .map (some mb)
structure FwAt (w : World) (b mw mb : Nat) (σ : FwSt) : Prop where
  o : Obj_ w b 4 (fwF σ.ep σ.nx mw mb)
  wm : MapIs w mw plV Ms.val σ.wt
  bm : MapIs w mb plV Ms.val σ.bf
  d1 : b ≠ mw
  d2 : b ≠ mb
  d3 : mw ≠ mb
def FF (b mw mb : Nat) (x : Nat) : Prop := x = b ∨ x = mw ∨ x = mb
theorem FwAt.mods {w w' : World} {b mw mb : Nat} {σ : FwSt} {S : Nat → Prop} (h : FwAt w b mw mb σ) (he : Mods S w w') (hS : ∀ x, FF b mw mb x → ¬ S x) : FwAt w' b mw mb σ :=
  ⟨h.o.mods he (hS _ (.inl rfl)), h.wm.mods he (hS _ (.inr (.inl rfl))), h.bm.mods he (hS _ (.inr (.inr rfl))), h.d1, h.d2, h.d3⟩
theorem FwAt.ext {w w' : World} {b mw mb : Nat} {σ : FwSt} (h : FwAt w b mw mb σ) (he : Ext w w') : FwAt w' b mw mb σ := h.mods (he.mods (fun _ => False)) (fun _ _ h => h)
theorem FwAt.lt {w : World} {b mw mb : Nat} {σ : FwSt} (h : FwAt w b mw mb σ) {x : Nat} (hx : FF b mw mb x) : x < w.heap.size := by
  rcases hx with rfl | rfl | rfl
  · exact h.o.lt
  · exact h.wm.lt
  · exact h.bm.lt
theorem FwAt.cells {w : World} {b mw mb : Nat} {σ : FwSt} (h : FwAt w b mw mb σ) : w.cell? ⟨b, 0, none⟩ = some (.int .u32 σ.ep) ∧ w.cell? ⟨b, 1, none⟩ = some (.int .u32 σ.nx) ∧ w.cell? ⟨b, 2, none⟩ = some (.map (some mw)) ∧ w.cell? ⟨b, 3, none⟩ = some (.map (some mb)) ∧ b < w.heap.size :=
  ⟨h.o.cell 0 (by decide), h.o.cell 1 (by decide), h.o.cell 2 (by decide), h.o.cell 3 (by decide), h.o.lt⟩
theorem FwAt.putW {w w' : World} {b mw mb : Nat} {σ : FwSt} {kv : List ((Int × Int) × Ms)} (h : FwAt w b mw mb σ) (hm : MapIs w' mw plV Ms.val kv) (he : Mods (· = mw) w w') : FwAt w' b mw mb { σ with wt := kv } :=
  ⟨h.o.mods he h.d1, hm, h.bm.mods he (fun e => h.d3 e.symm), h.d1, h.d2, h.d3⟩
theorem FwAt.putB {w w' : World} {b mw mb : Nat} {σ : FwSt} {kv : List ((Int × Int) × Ms)} (h : FwAt w b mw mb σ) (hm : MapIs w' mb plV Ms.val kv) (he : Mods (· = mb) w w') : FwAt w' b mw mb { σ with bf := kv } :=
  ⟨h.o.mods he h.d2, h.wm.mods he h.d3, hm, h.d1, h.d2, h.d3⟩
theorem FwAt.setN {w w' : World} {b mw mb : Nat} {σ : FwSt} (h : FwAt w b mw mb σ) (n : Int) (he : Ext (w.setCell ⟨b, 1, none⟩ (.int .u32 n)) w') : FwAt w' b mw mb { σ with nx := n } := by
  have m1 : Mods (· = b) w w' := (Mods.setCell w b 1 _).then_ he
  refine ⟨?_, h.wm.mods m1 (fun e => h.d1 e.symm), h.bm.mods m1 (fun e => h.d2 e.symm), h.d1, h.d2, h.d3⟩
  refine ((h.o.set (i := 1) (by decide) (.int .u32 n)).ext he).congr (fun i hi => ?_)
  match i, hi with
  | 0, _ => rfl
  | 1, _ => rfl
  | 2, _ => rfl
  | 3, _ => rfl
theorem FwAt.setE {w w' : World} {b mw mb : Nat} {σ : FwSt} (h : FwAt w b mw mb σ) (n : Int) (he : Ext (w.setCell ⟨b, 0, none⟩ (.int .u32 n)) w') : FwAt w' b mw mb { σ with ep := n } := by
  have m1 : Mods (· = b) w w' := (Mods.setCell w b 0 _).then_ he
  refine ⟨?_, h.wm.mods m1 (fun e => h.d1 e.symm), h.bm.mods m1 (fun e => h.d2 e.symm), h.d1, h.d2, h.d3⟩
  refine ((h.o.set (i := 0) (by decide) (.int .u32 n)).ext he).congr (fun i hi => ?_)
  match i, hi with
  | 0, _ => rfl
  | 1, _ => rfl
  | 2, _ => rfl
  | 3, _ => rfl

theorem isNil_at {w : World} {b mw mb : Nat} {σ : FwSt} (h : FwAt w b mw mb σ) : Calls Try.prog 25 #[.pointer (some ⟨b, 0, none⟩)] w fun e w' => e = .returned (.bool false) ∧ w' = w := by
  obtain ⟨c0, c1, c2, c3, lb⟩ := h.cells
  have hmn : ∀ w, (binOp .eql 69 (.map (some mw)) (.map none)).run Try.prog w = .ok (.bool false) w := fun w => run_eql_map_nil w _ _ _ (some mw) Try.underlying69
  clear h c0 c1 c3
  go_enter Try.func25, Try.ntmps25
  go_wp2
  go_ret
  exact ⟨rfl, rfl⟩
theorem isNil_nil (w : World) : Calls Try.prog 25 #[.pointer none] w fun e w' => e = .returned (.bool true) ∧ w' = w := by
  go_enter Try.func25, Try.ntmps25
  go_wp2
  go_ret
  exact ⟨rfl, rfl⟩
theorem era_in {w : World} {b : Nat} {e : Int} (h : w.cell? ⟨b, 0, none⟩ = some (.int .u32 e)) : Calls Try.prog 26 #[.pointer (some ⟨b, 0, none⟩)] w fun x w' => x = .returned (.int .u32 e) ∧ w' = w := by
  go_enter Try.func26, Try.ntmps26
  go_wp2
  go_ret
  exact ⟨rfl, rfl⟩
theorem era_enter {w : World} {b mw mb : Nat} {σ : FwSt} (h : FwAt w b mw mb σ) (e : Int) : Calls Try.prog 27 #[.pointer (some ⟨b, 0, none⟩), .int .u32 e] w fun x w' => (∃ v, x = .returned v) ∧ FwAt w' b mw mb { σ with ep := e } ∧ Mods (FF b mw mb) w w' := by
  obtain ⟨c0, c1, c2, c3, lb⟩ := h.cells
  have f0 := h.o.free 0
  have H := Lib.hid h
  clear h c1 c2 c3
  go_enter Try.func27, Try.ntmps27
  go_wp2
  go_end0
  exact ⟨⟨_, rfl⟩, H.out.setE e (Ext.refl _), (Mods.setCell w b 0 _).mono (fun _ _ h => .inl h)⟩
def NewF (w : World) (e : Int) (x : Ending) (w' : World) : Prop := ∃ b mw mb, x = .returned (.pointer (some ⟨b, 0, none⟩)) ∧ FwAt w' b mw mb (fw0 e) ∧ Ext w w' ∧ ∀ x, FF b mw mb x → w.heap.size ≤ x
set_option maxRecDepth 100000 in
theorem newF_at (w : World) (e : Int) : Calls Try.prog 10 #[.int .u32 e] w (NewF w e) := by
  have hmm := @run_makeMap Try.prog
  go_enter Try.func10, Try.ntmps10
  go_wp2
  go_ret
  have m1 : MapIs (w.alloc (.map #[] 0)) w.heap.size plV Ms.val [] := MapIs.made (ek := plV) (ev := Ms.val) w
  have m2 : MapIs ((w.alloc (.map #[] 0)).alloc (.map #[] 0)) (w.alloc (.map #[] 0)).heap.size plV Ms.val [] := MapIs.made (ek := plV) (ev := Ms.val) _
  have e1 := Ext.alloc w (.map #[] 0)
  have e2 := Ext.alloc (w.alloc (.map #[] 0)) (.map #[] 0)
  have e3 := Ext.alloc ((w.alloc (.map #[] 0)).alloc (.map #[] 0)) (.cells #[.int .u32 e, .int .u32 1, .map (some w.heap.size), .map (some (w.heap.size + 1))] 71)
  have o := Obj_.new ((w.alloc (.map #[] 0)).alloc (.map #[] 0)) 71 #[.int .u32 e, .int .u32 1, .map (some w.heap.size), .map (some (w.heap.size + 1))] (fwF e 1 w.heap.size (w.heap.size + 1)) (fun i hi => by
    simp at hi
    match i, hi with
    | 0, _ => rfl
    | 1, _ => rfl
    | 2, _ => rfl
    | 3, _ => rfl)
  have s1 : (w.alloc (.map #[] 0)).heap.size = w.heap.size + 1 := by simp
  have s2 : ((w.alloc (.map #[] 0)).alloc (.map #[] 0)).heap.size = w.heap.size + 1 + 1 := by simp
  rw [s1] at m2
  rw [s2] at o
  exact ⟨w.heap.size + 1 + 1, w.heap.size, w.heap.size + 1, rfl, ⟨o, (m1.ext e2).ext e3, m2.ext e3, by omega, by omega, by omega⟩, (e1.trans e2).trans e3, fun x hx => by unfold FF at hx; omega⟩
end Go.Proofs.Ytokljdkeegdniaa
