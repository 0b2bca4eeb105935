/-
  Arguments opened: beats, acts, numbers.
-/
import Derived.Test.YtfdbfdbeegalpaaShut
import Derived.Test.YtfdbfdbeegalpaaNewD
import Derived.Lib.SmallJoins
namespace Go.Proofs.Ytfdbfdbeegalpaa
open Go.Joins Go.ChangeShapes Go.WideShapes Go.ChangeAt Go.RowKit

structure Ac where
  hear : Bool
  node : Int
  t : Int
  abs : Bool
def Ac.enc (a : Ac) : List Value := [.bool a.hear, .int .i64 a.node, .int .u64 a.t, .bool a.abs]
theorem Ac.len (a : Ac) : a.enc.length = 4 := rfl
abbrev AcL (w : World) (v : Value) (l : List Ac) : Prop := Sl Ac.enc 4 w v l
theorem Sl.atA {w : World} {A : Option Addr} {n cap : Nat} {l : List Ac} (h : AcL w (.slice A n cap) l) {j : Nat} (hj : j < l.length) :
    ∃ b off, A = some ⟨b, off, none⟩ ∧ b < w.heap.size ∧ w.cell? ⟨b, off + j * 4, none⟩ = some (.bool l[j].hear) ∧ w.cell? ⟨b, off + j * 4 + 1, none⟩ = some (.int .i64 l[j].node) ∧ w.cell? ⟨b, off + j * 4 + 2, none⟩ = some (.int .u64 l[j].t) := by
  obtain ⟨A', cap', e, _, _, hc⟩ := h
  injection e with e1 e2 e3
  subst e1
  obtain ⟨b, off, rfl, hlt, hcell⟩ := hc (fun e => by rw [e] at hj; simp at hj)
  have := hcell j _ (List.getElem?_eq_getElem hj)
  exact ⟨b, off, rfl, hlt, this 0 _ rfl, this 1 _ rfl, this 2 _ rfl⟩
def u64B (x : Int) : Prop := 0 ≤ x ∧ x ≤ 18446744073709551615
structure Ac.Wf (a : Ac) : Prop where
  t : u64B a.t

section
variable {H : Type} {enc : TypeId × Value → H} {w : World} {base : Nat} {spare : Nat → Bool} {held : Bool}
theorem trod_u64 {fuel : Nat} {cs : List Value} {x : DataW H × List MemPlace} (h : DataW.trod enc Try.prog w base spare held fuel 22 cs = some x) : ∃ m : Int, cs = encI .u64 m ∧ u64B m := by
  obtain ⟨k, e0, _, hf⟩ := DataW.trod_int Try.underlying22 h
  exact ⟨k, e0, bounds_u64 hf⟩
theorem open_u64s {r : Reach} {b0 : Nat} {v : Value} {d : DataW H} {ps : List MemPlace} (hval : Value.okWide Try.prog w r b0 42 v) (hd : DataW.Trod enc Try.prog w base spare held 42 v d ps) : ∃ l, IL .u64 w v l ∧ ∀ h ∈ l, u64B h :=
  open_sl (encI .u64) 1 (encI_len _) (by decide) u64B Try.underlying42 (by kernel_rfl) (fun _ _ _ h => trod_u64 h) hval hd
theorem open_bt {r : Reach} {b0 : Nat} {v : Value} {d : DataW H} {ps : List MemPlace} (hval : Value.okWide Try.prog w r b0 35 v) (hd : DataW.Trod enc Try.prog w base spare held 35 v d ps) :
    ∃ q : Int × Int × Int, v = btV q.1 q.2.1 q.2.2 ∧ u64B q.1 ∧ u64B q.2.1 ∧ u64B q.2.2 := by
  obtain ⟨cs, rfl, _⟩ := okWide_struct Try.underlying35 hval
  obtain ⟨fuel, hf⟩ := hd
  obtain ⟨y0, y1, y2, n, _, hl, h0, h1, h2⟩ := Deep.trod_struct3 Try.underlying35 hf
  obtain ⟨a0, e0, b0⟩ := trod_u64 h0
  obtain ⟨a1, e1, b1⟩ := trod_u64 h1
  obtain ⟨a2, e2, b2⟩ := trod_u64 h2
  have hl' : cs.toList.length = 3 := by
    have : (Value.agg cs).cells.toList = cs.toList := rfl
    rw [this] at hl
    exact hl.trans (by kernel_rfl)
  have k1 : Try.prog.cellsOf 22 = 1 := by kernel_rfl
  refine ⟨(a0, a1, a2), ?_, b0, b1, b2⟩
  have hcs : cs = cs.toList.toArray := by simp
  have hcl : (Value.agg cs).cells.toList = cs.toList := rfl
  rw [hcl] at e0 e1 e2
  match hm : cs.toList, hl' with
  | [c0, c1, c2], _ =>
    rw [hm] at e0 e1 e2
    simp [k1, encI] at e0 e1 e2
    rw [hcs, hm, e0, e1, e2]
    rfl
theorem trod_ac {fuel : Nat} {cs : List Value} {x : DataW H × List MemPlace} (h : DataW.trod enc Try.prog w base spare held fuel 40 cs = some x) : ∃ m : Ac, cs = m.enc ∧ m.Wf := by
  obtain ⟨y0, y1, y2, y3, n, _, hl, h0, h1, h2, h3⟩ := trod_struct4 Try.underlying40 h
  obtain ⟨a0, e0, _⟩ := DataW.trod_bool Try.underlying4 h0
  obtain ⟨a1, e1, _, hf⟩ := DataW.trod_int Try.underlying3 h1
  obtain ⟨a2, e2, b2⟩ := trod_u64 h2
  obtain ⟨a3, e3, _⟩ := DataW.trod_bool Try.underlying4 h3
  have hl' : cs.length = 4 := by rw [hl]; kernel_rfl
  have k1 : Try.prog.cellsOf 22 = 1 := by kernel_rfl
  have k2 : Try.prog.cellsOf 3 = 1 := by kernel_rfl
  have k3 : Try.prog.cellsOf 4 = 1 := by kernel_rfl
  match cs, hl' with
  | [c0, c1, c2, c3], _ =>
    simp [k1, k2, k3, encI] at e0 e1 e2 e3
    subst e0; subst e1; subst e2; subst e3
    exact ⟨⟨a0, a1, a2, a3⟩, rfl, ⟨b2⟩⟩
theorem open_acs {r : Reach} {b0 : Nat} {v : Value} {d : DataW H} {ps : List MemPlace} (hval : Value.okWide Try.prog w r b0 36 v) (hd : DataW.Trod enc Try.prog w base spare held 36 v d ps) : ∃ l, AcL w v l ∧ ∀ h ∈ l, Ac.Wf h :=
  open_sl Ac.enc 4 Ac.len (by decide) Ac.Wf Try.underlying36 (by kernel_rfl) (fun _ _ _ h => trod_ac h) hval hd
end
end Go.Proofs.Ytfdbfdbeegalpaa
