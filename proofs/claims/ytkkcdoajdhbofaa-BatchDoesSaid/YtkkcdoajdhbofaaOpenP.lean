/-
  Arguments opened: a message, a happening.
-/
import Derived.Test.YtkkcdoajdhbofaaShut
import Derived.Test.YtkkcdoajdhbofaaOpsP
import Derived.Lib.SmallJoins
namespace Go.Proofs.Ytkkcdoajdhbofaa
open Go.Joins Go.ChangeShapes Go.WideShapes Go.ChangeAt Go.RowKit

structure Ms.Wf (m : Ms) : Prop where
  f0 : -9223372036854775808 ≤ m.f
  f1 : m.f ≤ 9223372036854775807
  c0 : 0 ≤ m.c
  c1 : m.c ≤ 4294967295
  d : m.d.size ≤ 9223372036854775807

section
variable {H : Type} {enc : TypeId × Value → H} {w : World} {base : Nat} {spare : Nat → Bool} {held : Bool}
theorem take_one {α : Type} {l : List α} (h : l.length = 1) : ∃ a, l = [a] := by
  match l, h with
  | [a], _ => exact ⟨a, rfl⟩
theorem trod_ms {fuel : Nat} {cs : List Value} {x : DataW H × List MemPlace} (h : DataW.trod enc Try.prog w base spare held fuel 41 cs = some x) : ∃ m : Ms, cs = m.enc ∧ m.Wf := by
  obtain ⟨y0, y1, n, _, hl, h0, h1⟩ := trod_struct2 Try.underlying41 h
  obtain ⟨z0, z1, n2, _, hl2, g0, g1⟩ := trod_struct2 Try.underlying25 h0
  obtain ⟨f, e0, _, hf⟩ := DataW.trod_int Try.underlying3 g0
  obtain ⟨c, e1, _, hc⟩ := DataW.trod_int Try.underlying23 g1
  obtain ⟨d, e2, _, hd⟩ := DataW.trod_string Try.underlying9 h1
  have hl' : cs.length = 3 := by rw [hl]; kernel_rfl
  have k1 : Try.prog.cellsOf 25 = 2 := by kernel_rfl
  have k2 : Try.prog.cellsOf 3 = 1 := by kernel_rfl
  have k3 : Try.prog.cellsOf 23 = 1 := by kernel_rfl
  have k4 : Try.prog.cellsOf 9 = 1 := by kernel_rfl
  match cs, hl' with
  | [c0, c1, c2], _ =>
    simp [k1, k2, k3, k4] at e0 e1 e2
    subst e0; subst e1; subst e2
    have b1 := bounds_i64 hf
    have b2 := bounds_u32 hc
    exact ⟨⟨f, c, d⟩, rfl, b1.1, b1.2, b2.1, b2.2, Nat.le_trans hd (by decide)⟩
theorem open_m {r : Reach} {b0 : Nat} {v : Value} {d : DataW H} {ps : List MemPlace} (hval : Value.okWide Try.prog w r b0 41 v) (hd : DataW.Trod enc Try.prog w base spare held 41 v d ps) : ∃ h : Ms, v = h.val ∧ h.Wf := by
  obtain ⟨cs, rfl, _⟩ := okWide_struct Try.underlying41 hval
  obtain ⟨fuel, hf⟩ := hd
  obtain ⟨m, hm, hw⟩ := trod_ms hf
  refine ⟨m, ?_, hw⟩
  have : cs = m.enc.toArray := by
    have : cs.toList = m.enc := by simpa [Value.cells] using hm
    rw [← this]
  rw [this]; rfl
theorem open_msl {r : Reach} {b0 : Nat} {v : Value} {d : DataW H} {ps : List MemPlace} (hval : Value.okWide Try.prog w r b0 30 v) (hd : DataW.Trod enc Try.prog w base spare held 30 v d ps) : ∃ l, MsL w v l ∧ ∀ h ∈ l, Ms.Wf h :=
  open_sl Ms.enc 3 Ms.len (by decide) Ms.Wf Try.underlying30 (by kernel_rfl) (fun _ _ _ h => trod_ms h) hval hd
end
end Go.Proofs.Ytkkcdoajdhbofaa
