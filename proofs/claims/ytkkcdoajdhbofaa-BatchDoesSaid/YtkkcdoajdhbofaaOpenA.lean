/-
  Arguments opened: acts, each with messages of its own; an id.
-/
import Derived.Test.YtkkcdoajdhbofaaOpenP
import Derived.Test.YtkkcdoajdhbofaaOpsI
namespace Go.Proofs.Ytkkcdoajdhbofaa
open Go.Joins Go.ChangeShapes Go.WideShapes Go.ChangeAt Go.RowKit

theorem trod_sl {α H : Type} {enc : TypeId × Value → H} {P : Program} {w : World} {base : Nat} {spare : Nat → Bool} {held : Bool} {t e : TypeId} {cs : List Value} {x : DataW H × List MemPlace} {fuel : Nat} (enc' : α → List Value) (k : Nat) (hk : ∀ m, (enc' m).length = k) (hk0 : 0 < k)
    (ht : P.underlying t = some (.slice e)) (hC : P.cellsOf e = k) (hdec : ∀ (n : Nat) (cs : List Value) (x : DataW H × List MemPlace), DataW.trod enc P w base spare held n e cs = some x → ∃ m, cs = enc' m)
    (hf : DataW.trod enc P w base spare held fuel t cs = some x) : ∃ v l, cs = [v] ∧ Sl enc' k w v l := by
  rcases Deep.open_slice ht hf with ⟨hcs, _⟩ | ⟨a, len, cap, m, n, D, Pl, hcs, hb, hl, hm, hmm, _, hi⟩
  · exact ⟨_, [], hcs, Sl.nil⟩
  · rw [hC] at hi
    have hlm : len ≤ m := by rw [hmm]; split <;> omega
    have one : ∀ i, i < len → ∃ x : α, w.cells? base (a.add (i * k)) k = some (enc' x) := fun i h => by
      obtain ⟨cs', h1, h2⟩ := hi i (by omega)
      obtain ⟨x, rfl⟩ := hdec _ _ _ h2
      exact ⟨x, h1⟩
    by_cases h0 : len = 0
    · subst h0
      exact ⟨_, [], hcs, ⟨some a, cap, rfl, Nat.zero_le _, hm, fun h => absurd rfl h⟩⟩
    · have hlen : 0 < len := by omega
      have hne : Nonempty α := let ⟨x, _⟩ := one 0 hlen; ⟨x⟩
      have hsel : ∃ g : Nat → α, ∀ i, i < len → w.cells? base (a.add (i * k)) k = some (enc' (g i)) :=
        ⟨fun i => if h : i < len then Classical.choose (one i h) else Classical.choice hne, fun i h => by simp only [h, dif_pos]; exact Classical.choose_spec (one i h)⟩
      obtain ⟨g, hg⟩ := hsel
      have hspot : a.spot = none := by
        have h1 := (World.cells?_some (hg 0 hlen)).2.2 0 hk0
        have h2 : a.add (0 * k) = a := by simp [Addr.add]
        rw [h2] at h1
        have h3 : a.add 0 = a := by simp [Addr.add]
        rw [h3, List.getElem?_eq_getElem (by rw [hk]; exact hk0)] at h1
        unfold World.cell? at h1
        split at h1
        · split at h1
          · cases h1
          · rename_i hs; simpa using hs
        · cases h1
      obtain ⟨b, off, sp⟩ := a
      simp only at hspot
      subst hspot
      refine ⟨_, (List.range len).map g, hcs, ⟨some ⟨b, off, none⟩, cap, by simp, by simpa using hl, hm, fun _ => ⟨b, off, rfl, ?_, fun j x hx i u hu => ?_⟩⟩⟩
      · have h1 := (World.cells?_some (hg 0 hlen)).2.2 0 hk0
        simp only [Addr.add, Nat.zero_mul, if_true] at h1
        rw [List.getElem?_eq_getElem (by rw [hk]; exact hk0)] at h1
        exact cell_lt h1
      · have hj : j < len := by have := (List.getElem?_eq_some_iff.1 hx).1; simpa using this
        have hx' : g j = x := by simpa [List.getElem?_map, hj] using hx
        have hik : i < k := by have := (List.getElem?_eq_some_iff.1 hu).1; rw [hk] at this; exact this
        have h1 := (World.cells?_some (hg j hj)).2.2 i hik
        rw [hx', hu] at h1
        rw [← h1]
        have e : (Addr.add (Addr.add ⟨b, off, none⟩ (j * k)) i) = ⟨b, off + j * k + i, none⟩ := by
          unfold Addr.add
          split
          · split
            · rename_i h1 h2; simp [h1, h2]
            · rename_i h1 h2; simp [h1]
          · split
            · rename_i h1 h2; simp [h2]
            · simp
        rw [e]

structure Ac where
  k : Int
  n : Int
  v : Value
def Ac.enc (a : Ac) : List Value := [.int .i64 a.k, .int .i64 a.n, a.v]
theorem Ac.len (a : Ac) : a.enc.length = 3 := rfl
def Ac.Wf (w : World) (a : Ac) : Prop := ∃ l, MsL w a.v l
abbrev AcL (w : World) (v : Value) (l : List Ac) : Prop := Sl Ac.enc 3 w v l
theorem Sl.atA {w : World} {A : Option Addr} {n cap : Nat} {l : List Ac} (h : AcL w (.slice A n cap) l) {j : Nat} (hj : j < l.length) :
    ∃ b off, A = some ⟨b, off, none⟩ ∧ b < w.heap.size ∧ w.cell? ⟨b, off + j * 3, none⟩ = some (.int .i64 l[j].k) ∧ w.cell? ⟨b, off + j * 3 + 1, none⟩ = some (.int .i64 l[j].n) ∧ w.cell? ⟨b, off + j * 3 + 2, none⟩ = some l[j].v := by
  obtain ⟨A', cap', e, _, _, hc⟩ := h
  injection e with e1 e2 e3
  subst e1
  obtain ⟨b, off, rfl, hlt, hcell⟩ := hc (fun e => by rw [e] at hj; simp at hj)
  have := hcell j _ (List.getElem?_eq_getElem hj)
  exact ⟨b, off, rfl, hlt, this 0 _ rfl, this 1 _ rfl, this 2 _ rfl⟩
section
variable {H : Type} {enc : TypeId × Value → H} {w : World} {base : Nat} {spare : Nat → Bool} {held : Bool}
theorem trod_ac {fuel : Nat} {cs : List Value} {x : DataW H × List MemPlace} (h : DataW.trod enc Try.prog w base spare held fuel 36 cs = some x) : ∃ a : Ac, cs = a.enc ∧ Ac.Wf w a := by
  obtain ⟨y0, y1, y2, n, _, hl, h0, h1, h2⟩ := Deep.trod_struct3 Try.underlying36 h
  obtain ⟨k, e0, _, hk⟩ := DataW.trod_int Try.underlying3 h0
  obtain ⟨m, e1, _, hm⟩ := DataW.trod_int Try.underlying3 h1
  obtain ⟨v, l, e2, hs⟩ := trod_sl Ms.enc 3 Ms.len (by decide) Try.underlying30 (by kernel_rfl) (fun _ _ _ h => let ⟨m, h1, _⟩ := trod_ms h; ⟨m, h1⟩) h2
  have hl' : cs.length = 3 := by rw [hl]; kernel_rfl
  have k2 : Try.prog.cellsOf 3 = 1 := by kernel_rfl
  have k4 : Try.prog.cellsOf 30 = 1 := by kernel_rfl
  match cs, hl' with
  | [c0, c1, c2], _ =>
    simp [k2, k4] at e0 e1 e2
    subst e0; subst e1; subst e2
    exact ⟨⟨k, m, _⟩, rfl, l, hs⟩
theorem open_acl {r : Reach} {b0 : Nat} {v : Value} {d : DataW H} {ps : List MemPlace} (hval : Value.okWide Try.prog w r b0 22 v) (hd : DataW.Trod enc Try.prog w base spare held 22 v d ps) : ∃ l, AcL w v l ∧ ∀ h ∈ l, Ac.Wf w h :=
  open_sl Ac.enc 3 Ac.len (by decide) (Ac.Wf w) Try.underlying22 (by kernel_rfl) (fun _ _ _ h => trod_ac h) hval hd
theorem open_id {r : Reach} {b0 : Nat} {v : Value} {d : DataW H} {ps : List MemPlace} (hval : Value.okWide Try.prog w r b0 25 v) (hd : DataW.Trod enc Try.prog w base spare held 25 v d ps) : ∃ k : Int × Int, v = .agg #[.int .i64 k.1, .int .u32 k.2] ∧ True := by
  obtain ⟨cs, rfl, _⟩ := okWide_struct Try.underlying25 hval
  obtain ⟨fuel, hf⟩ := hd
  obtain ⟨z0, z1, n2, _, hl2, g0, g1⟩ := trod_struct2 Try.underlying25 hf
  obtain ⟨f, e0, _, hf⟩ := DataW.trod_int Try.underlying3 g0
  obtain ⟨c, e1, _, hc⟩ := DataW.trod_int Try.underlying23 g1
  have k2 : Try.prog.cellsOf 3 = 1 := by kernel_rfl
  have k3 : Try.prog.cellsOf 23 = 1 := by kernel_rfl
  have hl' : (Value.agg cs).cells.toList.length = 2 := by rw [hl2]; kernel_rfl
  have hcs : (Value.agg cs).cells = cs := rfl
  rw [hcs] at hl' e0 e1
  obtain ⟨l⟩ := cs
  match l, hl' with
  | [c0, c1], _ =>
    simp [k2, k3] at e0 e1
    subst e0; subst e1
    exact ⟨(f, c), rfl, trivial⟩
end
end Go.Proofs.Ytkkcdoajdhbofaa
