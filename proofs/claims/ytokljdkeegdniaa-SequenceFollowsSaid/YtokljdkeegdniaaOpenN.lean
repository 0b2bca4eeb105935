/-
  Arguments opened: a message, a happening.
-/
import Derived.Test.YtokljdkeegdniaaShut
import Derived.Test.YtokljdkeegdniaaOpsS
import Derived.Deep.Cut
import Derived.Lib.SmallJoins
namespace Go.Proofs.Ytokljdkeegdniaa
open Go.Joins Go.ChangeShapes Go.WideShapes Go.ChangeAt Go.RowKit
set_option maxRecDepth 100000

structure Ms.Wf (m : Ms) : Prop where
  f0 : -9223372036854775808 ≤ m.f
  f1 : m.f ≤ 9223372036854775807
  c0 : 0 ≤ m.c
  c1 : m.c ≤ 4294967295
  d : m.d.size ≤ 9223372036854775807

section
variable {H : Type} {enc : TypeId × Value → H} {w : World} {base : Nat} {spare : Nat → Bool} {held : Bool}
theorem take_one {α : Type} {l : List α} (h : l.length = 1) : ∃ a, l = [a] := by
  match l, h with
  | [a], _ => exact ⟨a, rfl⟩
theorem trod_ms {fuel : Nat} {cs : List Value} {x : DataW H × List MemPlace} (h : DataW.trod enc Try.prog w base spare held fuel 34 cs = some x) : ∃ m : Ms, cs = m.enc ∧ m.Wf := by
  obtain ⟨y0, y1, n, _, hl, h0, h1⟩ := trod_struct2 Try.underlying34 h
  obtain ⟨z0, z1, n2, _, hl2, g0, g1⟩ := trod_struct2 Try.underlying32 h0
  obtain ⟨f, e0, _, hf⟩ := DataW.trod_int Try.underlying3 g0
  obtain ⟨c, e1, _, hc⟩ := DataW.trod_int Try.underlying22 g1
  obtain ⟨d, e2, _, hd⟩ := DataW.trod_string Try.underlying9 h1
  have hl' : cs.length = 3 := by rw [hl]; kernel_rfl
  have k1 : Try.prog.cellsOf 32 = 2 := by kernel_rfl
  have k2 : Try.prog.cellsOf 3 = 1 := by kernel_rfl
  have k3 : Try.prog.cellsOf 22 = 1 := by kernel_rfl
  have k4 : Try.prog.cellsOf 9 = 1 := by kernel_rfl
  match cs, hl' with
  | [c0, c1, c2], _ =>
    simp [k1, k2, k3, k4] at e0 e1 e2
    subst e0; subst e1; subst e2
    have b1 := bounds_i64 hf
    have b2 := bounds_u32 hc
    exact ⟨⟨f, c, d⟩, rfl, b1.1, b1.2, b2.1, b2.2, Nat.le_trans hd (by decide)⟩
theorem open_m {r : Reach} {b0 : Nat} {v : Value} {d : DataW H} {ps : List MemPlace} (hval : Value.okWide Try.prog w r b0 34 v) (hd : DataW.Trod enc Try.prog w base spare held 34 v d ps) : ∃ h : Ms, v = h.val ∧ h.Wf := by
  obtain ⟨cs, rfl, _⟩ := okWide_struct Try.underlying34 hval
  obtain ⟨fuel, hf⟩ := hd
  obtain ⟨m, hm, hw⟩ := trod_ms hf
  refine ⟨m, ?_, hw⟩
  have : cs = m.enc.toArray := by
    have : cs.toList = m.enc := by simpa [Value.cells] using hm
    rw [← this]
  rw [this]; rfl
theorem open_msl {r : Reach} {b0 : Nat} {v : Value} {d : DataW H} {ps : List MemPlace} (hval : Value.okWide Try.prog w r b0 40 v) (hd : DataW.Trod enc Try.prog w base spare held 40 v d ps) : ∃ l, MsL w v l ∧ ∀ h ∈ l, Ms.Wf h :=
  open_sl Ms.enc 3 Ms.len (by decide) Ms.Wf Try.underlying40 (by kernel_rfl) (fun _ _ _ h => trod_ms h) hval hd
structure Nb.Wf (x : Nb) : Prop where
  e0 : 0 ≤ x.e
  e1 : x.e ≤ 4294967295
  n0 : 0 ≤ x.n
  n1 : x.n ≤ 4294967295
  m : x.m.Wf
theorem trod_nb {fuel : Nat} {cs : List Value} {x : DataW H × List MemPlace} (h : DataW.trod enc Try.prog w base spare held fuel 36 cs = some x) : ∃ m : Nb, cs = m.enc ∧ m.Wf := by
  obtain ⟨y0, y1, y2, n, _, hl, h0, h1, h2⟩ := Deep.trod_struct3 Try.underlying36 h
  obtain ⟨e, e0, _, he⟩ := DataW.trod_int Try.underlying22 h0
  obtain ⟨k, e1, _, hk⟩ := DataW.trod_int Try.underlying22 h1
  obtain ⟨m, e2, hm⟩ := trod_ms h2
  have hl' : cs.length = 5 := by rw [hl]; kernel_rfl
  have k2 : Try.prog.cellsOf 22 = 1 := by kernel_rfl
  have k4 : Try.prog.cellsOf 34 = 3 := by kernel_rfl
  obtain ⟨f, c, d⟩ := m
  match cs, hl' with
  | [c0, c1, c2, c3, c4], _ =>
    simp [k2, k4, Ms.enc] at e0 e1 e2
    obtain ⟨rfl, rfl, rfl⟩ := e2
    subst e0; subst e1
    have b1 := bounds_u32 he
    have b2 := bounds_u32 hk
    exact ⟨⟨e, k, ⟨f, c, d⟩⟩, rfl, b1.1, b1.2, b2.1, b2.2, hm⟩
theorem open_nb {r : Reach} {b0 : Nat} {v : Value} {d : DataW H} {ps : List MemPlace} (hval : Value.okWide Try.prog w r b0 36 v) (hd : DataW.Trod enc Try.prog w base spare held 36 v d ps) : ∃ h : Nb, v = h.val ∧ h.Wf := by
  obtain ⟨cs, rfl, _⟩ := okWide_struct Try.underlying36 hval
  obtain ⟨fuel, hf⟩ := hd
  obtain ⟨m, hm, hw⟩ := trod_nb hf
  refine ⟨m, ?_, hw⟩
  have : cs = m.enc.toArray := by
    have : cs.toList = m.enc := by simpa [Value.cells] using hm
    rw [← this]
  rw [this]; rfl
end
end Go.Proofs.Ytokljdkeegdniaa
