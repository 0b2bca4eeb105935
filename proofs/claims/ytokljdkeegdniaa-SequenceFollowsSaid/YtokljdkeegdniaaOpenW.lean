/-
  Arguments opened: ways, acts.
-/
import Derived.Test.YtokljdkeegdniaaOpenN
namespace Go.Proofs.Ytokljdkeegdniaa
open Go.Joins Go.ChangeShapes Go.WideShapes Go.ChangeAt Go.RowKit
set_option maxRecDepth 100000

structure Wy where
  two : Bool
  at_ : Int
def Wy.enc (a : Wy) : List Value := [.bool a.two, .int .i64 a.at_]
theorem Wy.len (a : Wy) : a.enc.length = 2 := rfl
abbrev WyL (w : World) (v : Value) (l : List Wy) : Prop := Sl Wy.enc 2 w v l
theorem Sl.atWy {w : World} {A : Option Addr} {n cap : Nat} {l : List Wy} (h : WyL w (.slice A n cap) l) {j : Nat} (hj : j < l.length) :
    ∃ b off, A = some ⟨b, off, none⟩ ∧ b < w.heap.size ∧ w.cell? ⟨b, off + j * 2, none⟩ = some (.bool l[j].two) ∧ w.cell? ⟨b, off + j * 2 + 1, none⟩ = some (.int .i64 l[j].at_) := by
  obtain ⟨A', cap', e, _, _, hc⟩ := h
  injection e with e1 e2 e3
  subst e1
  obtain ⟨b, off, rfl, hlt, hcell⟩ := hc (fun e => by rw [e] at hj; simp at hj)
  have := hcell j _ (List.getElem?_eq_getElem hj)
  exact ⟨b, off, rfl, hlt, this 0 _ rfl, this 1 _ rfl⟩
structure Ac where
  mv : Bool
  x : Nb
def Ac.enc (a : Ac) : List Value := .bool a.mv :: a.x.enc
theorem Ac.len (a : Ac) : a.enc.length = 6 := rfl
def Ac.Wf (a : Ac) : Prop := a.x.Wf
abbrev AcL (w : World) (v : Value) (l : List Ac) : Prop := Sl Ac.enc 6 w v l
theorem Sl.atAc {w : World} {A : Option Addr} {n cap : Nat} {l : List Ac} (h : AcL w (.slice A n cap) l) {j : Nat} (hj : j < l.length) :
    ∃ b off, A = some ⟨b, off, none⟩ ∧ b < w.heap.size ∧ w.cell? ⟨b, off + j * 6, none⟩ = some (.bool l[j].mv) ∧ NbCells w b (off + j * 6 + 1) l[j].x := by
  obtain ⟨A', cap', e, _, _, hc⟩ := h
  injection e with e1 e2 e3
  subst e1
  obtain ⟨b, off, rfl, hlt, hcell⟩ := hc (fun e => by rw [e] at hj; simp at hj)
  have := hcell j _ (List.getElem?_eq_getElem hj)
  exact ⟨b, off, rfl, hlt, this 0 _ rfl, ⟨this 1 _ rfl, this 2 _ rfl, this 3 _ rfl, this 4 _ rfl, this 5 _ rfl⟩⟩
section
variable {H : Type} {enc : TypeId × Value → H} {w : World} {base : Nat} {spare : Nat → Bool} {held : Bool}
theorem trod_wy {fuel : Nat} {cs : List Value} {x : DataW H × List MemPlace} (h : DataW.trod enc Try.prog w base spare held fuel 57 cs = some x) : ∃ a : Wy, cs = a.enc ∧ True := by
  obtain ⟨y0, y1, n, _, hl, h0, h1⟩ := trod_struct2 Try.underlying57 h
  obtain ⟨b, e0, _⟩ := DataW.trod_bool Try.underlying4 h0
  obtain ⟨k, e1, _, hk⟩ := DataW.trod_int Try.underlying3 h1
  have hl' : cs.length = 2 := by rw [hl]; kernel_rfl
  have k2 : Try.prog.cellsOf 4 = 1 := by kernel_rfl
  have k4 : Try.prog.cellsOf 3 = 1 := by kernel_rfl
  match cs, hl' with
  | [c0, c1], _ =>
    simp [k2, k4] at e0 e1
    subst e0; subst e1
    exact ⟨⟨b, k⟩, rfl, trivial⟩
theorem open_wyl {r : Reach} {b0 : Nat} {v : Value} {d : DataW H} {ps : List MemPlace} (hval : Value.okWide Try.prog w r b0 52 v) (hd : DataW.Trod enc Try.prog w base spare held 52 v d ps) : ∃ l, WyL w v l ∧ ∀ h ∈ l, True :=
  open_sl Wy.enc 2 Wy.len (by decide) (fun _ => True) Try.underlying52 (by kernel_rfl) (fun _ _ _ h => trod_wy h) hval hd
theorem trod_ac {fuel : Nat} {cs : List Value} {x : DataW H × List MemPlace} (h : DataW.trod enc Try.prog w base spare held fuel 38 cs = some x) : ∃ a : Ac, cs = a.enc ∧ a.Wf := by
  obtain ⟨y0, y1, n, _, hl, h0, h1⟩ := trod_struct2 Try.underlying38 h
  obtain ⟨b, e0, _⟩ := DataW.trod_bool Try.underlying4 h0
  obtain ⟨m, e1, hm⟩ := trod_nb h1
  have hl' : cs.length = 6 := by rw [hl]; kernel_rfl
  have k2 : Try.prog.cellsOf 4 = 1 := by kernel_rfl
  have k4 : Try.prog.cellsOf 36 = 5 := by kernel_rfl
  match cs, hl' with
  | [c0, c1, c2, c3, c4, c5], _ =>
    simp [k2, k4] at e0 e1
    subst e0
    exact ⟨⟨b, m⟩, by unfold Ac.enc; rw [← e1], hm⟩
theorem open_acl {r : Reach} {b0 : Nat} {v : Value} {d : DataW H} {ps : List MemPlace} (hval : Value.okWide Try.prog w r b0 23 v) (hd : DataW.Trod enc Try.prog w base spare held 23 v d ps) : ∃ l, AcL w v l ∧ ∀ h ∈ l, Ac.Wf h :=
  open_sl Ac.enc 6 Ac.len (by decide) Ac.Wf Try.underlying23 (by kernel_rfl) (fun _ _ _ h => trod_ac h) hval hd
end
end Go.Proofs.Ytokljdkeegdniaa
