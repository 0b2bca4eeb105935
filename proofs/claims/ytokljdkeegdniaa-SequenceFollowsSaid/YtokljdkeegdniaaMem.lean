/-
  Memory: what a call leaves alone ('Ext', 'Mods'); slices that read as lists ('Sl'); rows of the call's own; blocks known cell by cell ('Obj'); messages.
-/
import Derived.Test.YtokljdkeegdniaaSteps
import Derived.Laws.AppendOwn
import Derived.Carry
import Derived.Lib.Hide
import Derived.Maps.AppendAt
namespace Go.Proofs.Ytokljdkeegdniaa
open Go.RowKit

/-! ### what is left alone -/
structure Mods (S : Nat → Prop) (w w' : World) : Prop where
  os : w'.os = w.os
  tape : w'.tape = w.tape
  output : w'.output = w.output
  size : w.heap.size ≤ w'.heap.size
  block : ∀ k, k < w.heap.size → ¬ S k → w'.heap[k]? = w.heap[k]?

theorem Mods.refl (S : Nat → Prop) (w : World) : Mods S w w := ⟨rfl, rfl, rfl, Nat.le_refl _, fun _ _ _ => rfl⟩
theorem Mods.trans {S T : Nat → Prop} {a b c : World} (h : Mods S a b) (k : Mods T b c) (hT : ∀ x, x < a.heap.size → T x → S x) : Mods S a c :=
  ⟨k.os.trans h.os, k.tape.trans h.tape, k.output.trans h.output, Nat.le_trans h.size k.size,
    fun i hi hs => (k.block i (Nat.lt_of_lt_of_le hi h.size) (fun ht => hs (hT i hi ht))).trans (h.block i hi hs)⟩
theorem Mods.mono {S T : Nat → Prop} {a b : World} (h : Mods S a b) (hT : ∀ x, x < a.heap.size → S x → T x) : Mods T a b :=
  ⟨h.os, h.tape, h.output, h.size, fun i hi hs => h.block i hi (fun ht => hs (hT i hi ht))⟩
theorem Ext.mods {w w' : World} (h : Ext w w') (S : Nat → Prop) : Mods S w w' := ⟨h.os, h.tape, h.output, h.size, fun k hk _ => Below.block h k hk⟩
theorem Mods.ext {w w' : World} (h : Mods (fun _ => False) w w') : Ext w w' := ⟨h.os, h.tape, h.output, h.size, fun k hk => h.block k hk (fun x => x)⟩
theorem Mods.ext_of {S : Nat → Prop} {w w' : World} (h : Mods S w w') (hS : ∀ x, x < w.heap.size → ¬ S x) : Ext w w' := ⟨h.os, h.tape, h.output, h.size, fun k hk => h.block k hk (hS k hk)⟩
theorem Mods.after {S : Nat → Prop} {a b c : World} (h : Ext a b) (k : Mods S b c) : Mods S a c := (h.mods S).trans k (fun _ _ h => h)
theorem Mods.then_ {S : Nat → Prop} {a b c : World} (h : Mods S a b) (k : Ext b c) : Mods S a c := h.trans (k.mods S) (fun _ _ h => h)

theorem Ext.alloc (w : World) (o : Obj) : Ext w (w.alloc o) := (Below.refl _ w).alloc (Nat.le_refl _) o
theorem Ext.alloc' {a w : World} (h : Ext a w) (o : Obj) : Ext a (w.alloc o) := h.trans (Ext.alloc w o)
theorem Ext.drew (w : World) : Ext w w.drew := (Below.refl _ w).drew
theorem Ext.drawn (w : World) (n : Nat) : Ext w { w with drawn := n } := ⟨rfl, rfl, rfl, Nat.le_refl _, fun _ _ => rfl⟩
theorem Ext.lt {w w' : World} (h : Ext w w') {b : Nat} (hb : b < w.heap.size) : b < w'.heap.size := Nat.lt_of_lt_of_le hb h.size
theorem Ext.blk {w w' : World} (h : Ext w w') {b : Nat} (hb : b < w.heap.size) : w'.heap[b]? = w.heap[b]? := Below.block h b hb
/-- A store into a block that came after. -/
theorem Ext.setNew {a w : World} (h : Ext a w) {p : Addr} (hp : a.heap.size ≤ p.block) (u : Value) : Ext a (w.setCell p u) := Below.setCell h hp u
theorem Ext.cells {W w1 : World} (hb : Ext W w1) :
    (∀ b o, b < W.heap.size → w1.cell? ⟨b, o, none⟩ = W.cell? ⟨b, o, none⟩) ∧ (∀ b o, b < W.heap.size → w1.frozen? ⟨b, o, none⟩ = W.frozen? ⟨b, o, none⟩) ∧ (∀ b, b < W.heap.size → b < w1.heap.size) :=
  ⟨fun b o h => Below.cell hb (p := ⟨b, o, none⟩) h, fun b o h => Below.frozen hb (p := ⟨b, o, none⟩) h, fun _ h => hb.lt h⟩
theorem Mods.cells {S : Nat → Prop} {W w1 : World} (hb : Mods S W w1) :
    (∀ b o, b < W.heap.size → ¬ S b → w1.cell? ⟨b, o, none⟩ = W.cell? ⟨b, o, none⟩) ∧ (∀ b o, b < W.heap.size → ¬ S b → w1.frozen? ⟨b, o, none⟩ = W.frozen? ⟨b, o, none⟩) ∧ (∀ b, b < W.heap.size → b < w1.heap.size) :=
  ⟨fun b o h hs => World.cell?_of_block (a := ⟨b, o, none⟩) (hb.block b h hs), fun b o h hs => World.frozen?_of_block (a := ⟨b, o, none⟩) (hb.block b h hs), fun _ h => Nat.lt_of_lt_of_le h hb.size⟩
theorem Mods.setCell (w : World) (b o : Nat) (u : Value) : Mods (· = b) w (w.setCell ⟨b, o, none⟩ u) :=
  ⟨rfl, rfl, rfl, by simp [World.setCell], fun k _ hk => Below.heap_setCell _ _ _ _ hk⟩
theorem Mods.of_grown {w w' : World} {row : Option Nat} (h : w.grownBy w' row) : Mods (fun k => row = some k) w w' :=
  ⟨h.os, h.tape, h.output, h.size, fun k hk hr => h.block k hk (fun e => hr e.symm)⟩
theorem Mods.lt {S : Nat → Prop} {w w' : World} (h : Mods S w w') {b : Nat} (hb : b < w.heap.size) : b < w'.heap.size := Nat.lt_of_lt_of_le hb h.size

theorem cell_lt {w : World} {b o : Nat} {v : Value} (h : w.cell? ⟨b, o, none⟩ = some v) : b < w.heap.size := World.block_lt_of_cell? w _ h
theorem cell_of_blk {w w' : World} {b : Nat} (h : w'.heap[b]? = w.heap[b]?) (o : Nat) : w'.cell? ⟨b, o, none⟩ = w.cell? ⟨b, o, none⟩ := World.cell?_of_block (a := ⟨b, o, none⟩) h
theorem frozen_of_blk {w w' : World} {b : Nat} (h : w'.heap[b]? = w.heap[b]?) (o : Nat) : w'.frozen? ⟨b, o, none⟩ = w.frozen? ⟨b, o, none⟩ := World.frozen?_of_block (a := ⟨b, o, none⟩) h

/-! ### a block known cell by cell -/
def upd (f : Nat → Value) (i : Nat) (v : Value) : Nat → Value := fun j => if j = i then v else f j
structure Obj_ (w : World) (b N : Nat) (f : Nat → Value) : Prop where
  cell : ∀ i, i < N → w.cell? ⟨b, i, none⟩ = some (f i)
  free : ∀ i, w.frozen? ⟨b, i, none⟩ = false
  lt : b < w.heap.size
theorem Obj_.of_blk {w w' : World} {b N : Nat} {f : Nat → Value} (h : Obj_ w b N f) (hb : w'.heap[b]? = w.heap[b]?) (hs : w.heap.size ≤ w'.heap.size) : Obj_ w' b N f :=
  ⟨fun i hi => (cell_of_blk hb i).trans (h.cell i hi), fun i => (frozen_of_blk hb i).trans (h.free i), Nat.lt_of_lt_of_le h.lt hs⟩
theorem Obj_.ext {w w' : World} {b N : Nat} {f : Nat → Value} (h : Obj_ w b N f) (he : Ext w w') : Obj_ w' b N f := h.of_blk (he.blk h.lt) he.size
theorem Obj_.mods {S : Nat → Prop} {w w' : World} {b N : Nat} {f : Nat → Value} (h : Obj_ w b N f) (he : Mods S w w') (hS : ¬ S b) : Obj_ w' b N f := h.of_blk (he.block b h.lt hS) he.size
theorem Obj_.congr {w : World} {b N : Nat} {f g : Nat → Value} (h : Obj_ w b N f) (hg : ∀ i, i < N → f i = g i) : Obj_ w b N g := ⟨fun i hi => (h.cell i hi).trans (by rw [hg i hi]), h.free, h.lt⟩
theorem Obj_.set {w : World} {b N : Nat} {f : Nat → Value} (h : Obj_ w b N f) {i : Nat} (hi : i < N) (v : Value) : Obj_ (w.setCell ⟨b, i, none⟩ v) b N (upd f i v) := by
  refine ⟨fun j hj => ?_, fun j => ?_, ?_⟩
  · unfold upd
    by_cases hji : j = i
    · subst hji
      rw [if_pos rfl]
      exact World.cell?_setCell_same' _ _ _ (by rw [h.cell j hj]; rfl)
    · rw [if_neg hji]
      rw [World.cell?_setCell_other _ _ _ _ (by intro e; injection e with _ e; exact hji e.symm)]
      exact h.cell j hj
  · rw [World.frozen?_setCell]; exact h.free j
  · simp [World.setCell]; exact h.lt
theorem Obj_.new (w : World) (t : TypeId) (cs : Array Value) (f : Nat → Value) (hf : ∀ i, i < cs.size → cs[i]? = some (f i)) : Obj_ (w.alloc (.cells cs t)) w.heap.size cs.size f := by
  refine ⟨fun i hi => ?_, fun i => ?_, by simp⟩
  · rw [← hf i hi]; exact cell_of_row _ _ _ _ t (0, 0) (heap_alloc_new w _)
  · show (match (w.alloc (.cells cs t)).heap[w.heap.size]? with | some (.cells _ _ (lo, hi)) => lo ≤ i && i < hi | _ => false) = false
    rw [heap_alloc_new w (.cells cs t)]
    simp

/-! ### slices -/
section
variable {α : Type} {enc : α → List Value} {k : Nat} {w w' : World} {v : Value} {l : List α}
/-- The slice value v reads as the list l, its elements of k cells each. -/
def Sl (enc : α → List Value) (k : Nat) (w : World) (v : Value) (l : List α) : Prop :=
  ∃ (A : Option Addr) (cap : Nat), v = .slice A l.length cap ∧ l.length ≤ cap ∧ cap ≤ maxLen ∧
    (l ≠ [] → ∃ b off, A = some ⟨b, off, none⟩ ∧ b < w.heap.size ∧ ∀ j m, l[j]? = some m → ∀ i u, (enc m)[i]? = some u → w.cell? ⟨b, off + j * k + i, none⟩ = some u)
theorem Sl.nil : Sl enc k w (.slice none 0 0) [] := ⟨none, 0, rfl, Nat.le_refl _, Nat.zero_le _, fun h => absurd rfl h⟩
theorem Sl.of_blk (h : Sl enc k w v l) (hb : ∀ b, v.ownBlock = some b → b < w.heap.size → w'.heap[b]? = w.heap[b]?) (hs : w.heap.size ≤ w'.heap.size) : Sl enc k w' v l := by
  obtain ⟨A, cap, rfl, h1, h2, h3⟩ := h
  refine ⟨A, cap, rfl, h1, h2, fun hl => ?_⟩
  obtain ⟨b, off, rfl, hlt, hc⟩ := h3 hl
  exact ⟨b, off, rfl, Nat.lt_of_lt_of_le hlt hs, fun j m hj i u hu => (cell_of_blk (hb b rfl hlt) _).trans (hc j m hj i u hu)⟩
theorem Sl.ext (h : Sl enc k w v l) (he : Ext w w') : Sl enc k w' v l := h.of_blk (fun _ _ hlt => he.blk hlt) he.size
theorem Sl.mods {S : Nat → Prop} (h : Sl enc k w v l) (he : Mods S w w') (hS : ∀ b, v.ownBlock = some b → ¬ S b) : Sl enc k w' v l := h.of_blk (fun b hb hlt => he.block b hlt (hS b hb)) he.size
theorem Sl.val (h : Sl enc k w v l) : ∃ A cap, v = .slice A l.length cap ∧ l.length ≤ cap ∧ cap ≤ maxLen := let ⟨A, cap, h0, h1, h2, _⟩ := h; ⟨A, cap, h0, h1, h2⟩

/-- A row of the call's own. -/
def Own (enc : α → List Value) (k : Nat) (e : TypeId) (w : World) (v : Value) (l : List α) : Prop := w.ownsRow 0 e k v l.length (l.flatMap enc)

theorem flatMap_get (hk : ∀ x, (enc x).length = k) : ∀ (l : List α) (j : Nat) (m : α), l[j]? = some m → ∀ (i : Nat) (u : Value), (enc m)[i]? = some u → (l.flatMap enc)[j * k + i]? = some u
  | [], j, m, h, _, _, _ => by simp at h
  | x :: l, 0, m, h, i, u, hu => by
    simp only [List.getElem?_cons_zero, Option.some.injEq] at h
    subst h
    rw [List.flatMap_cons, Nat.zero_mul, Nat.zero_add, List.getElem?_append_left (by exact (List.getElem?_eq_some_iff.1 hu).1)]
    exact hu
  | x :: l, j + 1, m, h, i, u, hu => by
    simp only [List.getElem?_cons_succ] at h
    rw [List.flatMap_cons, List.getElem?_append_right (by rw [hk]; rw [Nat.add_mul]; omega), hk, show (j + 1) * k + i - k = j * k + i from by rw [Nat.add_mul]; omega]
    exact flatMap_get hk l j m h i u hu

theorem length_flatMap (hk : ∀ x, (enc x).length = k) : ∀ (l : List α), (l.flatMap enc).length = l.length * k
  | [] => by simp
  | x :: l => by rw [List.flatMap_cons, List.length_append, hk, length_flatMap hk l, List.length_cons, Nat.add_mul]; omega

theorem Own.nil {e : TypeId} : Own enc k e w (.slice none 0 0) [] := World.ownsRow_nil w 0 e k
theorem Own.sl {e : TypeId} (hk : ∀ x, (enc x).length = k) (h : Own enc k e w v l) : Sl enc k w v l := by
  have h0 := h
  rcases h.2 with ⟨rfl, hl⟩ | ⟨g, cap, cur, rfl, _, hg, hn, hc, hs, ht⟩
  · have : l = [] := List.eq_nil_of_length_eq_zero hl
    subst this
    exact Sl.nil
  · refine ⟨_, cap, rfl, hn, hc, fun _ => ⟨g, 0, rfl, (Array.getElem?_eq_some_iff.1 hg).1, fun j m hj i u hu => ?_⟩⟩
    have := World.ownsRow.cells h0 (g := g) rfl (j * k + i) u (flatMap_get hk l j m hj i u hu)
    rw [Addr.add_lit] at this
    rw [← this, Nat.zero_add, Nat.zero_add]
theorem Own.of_blk {e : TypeId} (h : Own enc k e w v l) (hb : ∀ b, v.ownBlock = some b → w'.heap[b]? = w.heap[b]?) : Own enc k e w' v l := by
  refine ⟨h.1, ?_⟩
  rcases h.2 with h2 | ⟨g, cap, cur, rfl, h3, hg, rest⟩
  · exact .inl h2
  · exact .inr ⟨g, cap, cur, rfl, h3, by rw [hb g rfl]; exact hg, rest⟩
theorem Own.lt {e : TypeId} (h : Own enc k e w v l) {b : Nat} (hb : v.ownBlock = some b) : b < w.heap.size := (World.ownsRow.lt h b hb).2
theorem Own.ext {e : TypeId} (h : Own enc k e w v l) (he : Ext w w') : Own enc k e w' v l := h.of_blk (fun _ hb => he.blk (h.lt hb))
theorem Own.mods {e : TypeId} {S : Nat → Prop} (h : Own enc k e w v l) (he : Mods S w w') (hS : ∀ b, v.ownBlock = some b → ¬ S b) : Own enc k e w' v l := h.of_blk (fun b hb => he.block b (h.lt hb) (hS b hb))
theorem Own.val {e : TypeId} (h : Own enc k e w v l) : ∃ A cap, v = .slice A l.length cap ∧ l.length ≤ cap ∧ cap ≤ maxLen := by
  rcases h.2 with ⟨rfl, hl⟩ | ⟨g, cap, cur, rfl, _, hg, hn, hc, hs, ht⟩
  · exact ⟨none, 0, by rw [hl], by omega, Nat.zero_le _⟩
  · exact ⟨_, cap, rfl, hn, hc⟩

/-- append(s, x...), s of the call's own: the new value owns both; what else lay there lies as it lay. -/
theorem Own.append {P : Program} {e : TypeId} {i : TypeInfo} {z : Value} {t ty : TypeId} (hk : ∀ x, (enc x).length = k) (h1 : ∀ x, ∀ u ∈ enc x, u.oneCell' = true) (hk0 : 0 < k)
    (ht : P.underlying t = some (.slice e)) (hi : P.info? e = some i) (hz : i.zero = some z) (hsize : i.size = k) (hzs : z.cells.size = k)
    (h : Own enc k e w v l) {x : Value} {m : List α} (hx : Sl enc k w x m) (hlen : l.length + m.length ≤ 1073741824) (hby : i.bytes ≤ 131072) :
    ∃ v' w', (Builtin.append_ #[t, t] ty #[v, x]).run P w = .ok v' w' ∧ Own enc k e w' v' (l ++ m) ∧ Mods (fun b => v.ownBlock = some b) w w' ∧
      (∀ b, v'.ownBlock = some b → v.ownBlock = some b ∨ w.heap.size ≤ b) := by
  obtain ⟨A, cap, rfl, hc1, hc2, hcells⟩ := hx
  by_cases hA : A = none
  · subst hA
    have hm : m = [] := Classical.byContradiction fun hm => by obtain ⟨b, off, e, _⟩ := hcells hm; cases e
    subst hm
    refine ⟨v, w, ?_, by rw [List.append_nil]; exact h, Mods.refl _ _, fun b hb => .inl hb⟩
    rcases h.2 with ⟨rfl, hl⟩ | ⟨g, c, cur, rfl, _, _, hnc, _⟩
    · simp [Builtin.append_, run_underlying ht, sizeOf, typeInfo, hi, Builtin.lenOf, Builtin.firstCells]
    · simp [Builtin.append_, run_underlying ht, sizeOf, typeInfo, hi, Builtin.lenOf, Builtin.firstCells, hnc, storeCells]
  · obtain ⟨ad, rfl⟩ := Option.ne_none_iff_exists'.1 hA
    have hcell : ∀ j u, (m.flatMap enc)[j]? = some u → w.cell? (ad.add j) = some u := by
      intro j u hj
      have hlt : j < m.length * k := by rw [← length_flatMap hk m]; exact (List.getElem?_eq_some_iff.1 hj).1
      have hm : m ≠ [] := fun hm => by rw [hm] at hlt; simp at hlt
      obtain ⟨b, off, e, _, hc⟩ := hcells hm
      injection e with e
      subst e
      have hq : j / k < m.length := Nat.div_lt_of_lt_mul (by rw [Nat.mul_comm]; exact hlt)
      have hmod := Nat.mod_lt j hk0
      have hex : (enc m[j / k])[j % k]? = some ((enc m[j / k])[j % k]'(by rw [hk]; exact hmod)) := List.getElem?_eq_getElem _
      have h2 := flatMap_get hk m (j / k) _ (List.getElem?_eq_getElem hq) (j % k) _ hex
      have hj' : j / k * k + j % k = j := by rw [Nat.mul_comm]; exact Nat.div_add_mod j k
      rw [hj', hj] at h2
      injection h2 with h2
      have h3 := hc (j / k) _ (List.getElem?_eq_getElem hq) (j % k) u (by rw [h2]; exact hex)
      rw [Addr.add_lit]
      rw [← h3, Nat.add_assoc, hj']
    have hlen' : l.length + m.length ≤ maxLen := by unfold maxLen; omega
    have hb' : (l.length + m.length) * i.bytes ≤ 140737488355328 := Nat.le_trans (Nat.mul_le_mul hlen hby) (by decide)
    have hone : ∀ u ∈ m.flatMap enc, u.oneCell' = true := fun u hu => by obtain ⟨x, _, hx⟩ := List.mem_flatMap.1 hu; exact h1 x u hx
    obtain ⟨v', w', hr, ho, hg, _, hat⟩ := run_append_own_at (P := P) w 0 t ty e i z k i.bytes ht hi hz hsize rfl hzs hk0 v l.length _ h ad m.length cap (m.flatMap enc) (length_flatMap hk m) hcell hone hlen' hb' (Nat.zero_le _)
    refine ⟨v', w', hr, ?_, Mods.of_grown hg, fun b hb => ?_⟩
    · unfold Own; rw [List.length_append, List.flatMap_append]; exact ho
    · rcases hat with e | e
      · exact .inl (by rw [← e]; exact hb)
      · rw [e] at hb; injection hb with hb; exact .inr (by omega)

theorem Own.empty {e : TypeId} (w : World) : Own enc k e (w.alloc (.cells #[] e)) (.slice (some ⟨w.heap.size, 0, none⟩) 0 0) ([] : List α) :=
  ⟨by simp, .inr ⟨w.heap.size, 0, #[], rfl, Nat.zero_le _, heap_alloc_new w _, Nat.le_refl _, Nat.zero_le _, by simp, by simp⟩⟩
/-- A literal of elements: one block of the call's own. -/
theorem Own.lit {e : TypeId} (hk : ∀ x, (enc x).length = k) (w : World) (l : List α) (hl : l.length ≤ maxLen) (hne : l ≠ []) {cs : List Value} (hcs : l.flatMap enc = cs) :
    Own enc k e (w.alloc (.cells cs.toArray e)) (.slice (some ⟨w.heap.size, 0, none⟩) l.length l.length) l := by
  subst hcs
  refine ⟨length_flatMap hk l, .inr ⟨w.heap.size, l.length, _, rfl, Nat.zero_le _, heap_alloc_new w _, Nat.le_refl _, hl, ?_, ?_⟩⟩
  · simp [length_flatMap hk l]
  · rw [← length_flatMap hk l]; exact List.take_length
end

/-! ### messages -/
structure Ms where
  f : Int
  c : Int
  d : ByteArray
deriving DecidableEq
def Ms.enc (m : Ms) : List Value := [.int .i64 m.f, .int .u32 m.c, .string m.d]
def Ms.val (m : Ms) : Value := .agg #[.int .i64 m.f, .int .u32 m.c, .string m.d]
theorem Ms.len (m : Ms) : m.enc.length = 3 := rfl
theorem Ms.one (m : Ms) : ∀ u ∈ m.enc, u.oneCell' = true := by intro u hu; simp [Ms.enc] at hu; rcases hu with rfl | rfl | rfl <;> rfl
abbrev MsL (w : World) (v : Value) (l : List Ms) : Prop := Sl Ms.enc 3 w v l

theorem Sl.at3 {w : World} {A : Option Addr} {n cap : Nat} {l : List Ms} (h : MsL w (.slice A n cap) l) {j : Nat} (hj : j < l.length) :
    ∃ b off, A = some ⟨b, off, none⟩ ∧ b < w.heap.size ∧ w.cell? ⟨b, off + j * 3, none⟩ = some (.int .i64 l[j].f) ∧ w.cell? ⟨b, off + j * 3 + 1, none⟩ = some (.int .u32 l[j].c) ∧ w.cell? ⟨b, off + j * 3 + 2, none⟩ = some (.string l[j].d) := by
  obtain ⟨A', cap', e, _, _, hc⟩ := h
  injection e with e1 e2 e3
  subst e1
  obtain ⟨b, off, rfl, hlt, hcell⟩ := hc (fun e => by rw [e] at hj; simp at hj)
  have := hcell j _ (List.getElem?_eq_getElem hj)
  exact ⟨b, off, rfl, hlt, this 0 _ rfl, this 1 _ rfl, this 2 _ rfl⟩

/-- A message is right. -/
def rightB (m : Ms) : Bool := decide (0 ≤ m.f ∧ m.f < 16 ∧ 1 ≤ m.c ∧ m.c ≤ 4294967294 ∧ m.d.size ≤ 1000)
end Go.Proofs.Ytokljdkeegdniaa
