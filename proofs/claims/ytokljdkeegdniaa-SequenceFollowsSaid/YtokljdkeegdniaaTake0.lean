/-
  sequence.Follower: take, its invariants; a frame of 73 temporaries; a function that leaves with marks alone.
-/
import Derived.Test.YtokljdkeegdniaaReady
import Derived.RangeFuncLeaves
namespace Go.Proofs.Ytokljdkeegdniaa
open Go.RowKit
attribute [local go_sem] Oper.semAt_some

/-! ### a frame -/
def frN (u : Nat → Value) (i : Nat) : Nat → List Value
  | 0 => []
  | n + 1 => u i :: frN u (i + 1) n
theorem frN_of : ∀ (n i : Nat) (l : List Value) (u : Nat → Value), l.length = n → (∀ j, j < n → l.getD j undef = u (i + j)) → l = frN u i n
  | 0, _, l, _, h, _ => by rw [List.length_eq_zero_iff.1 h]; rfl
  | n + 1, i, l, u, h, hj => by
    cases l with
    | nil => simp at h
    | cons x t =>
      have h0 := hj 0 (by omega)
      have ht := frN_of n (i + 1) t u (by simpa using h) (fun j hjn => by
        have := hj (j + 1) (by omega)
        rw [show i + 1 + j = i + (j + 1) by omega, ← this]; rfl)
      show x :: t = u i :: frN u (i + 1) n
      rw [← ht]
      have : x = u i := h0
      rw [this]
theorem fr73 {tm : Array Value} (h : tm.size = 73) : tm = (frN (fun i => tm.getD i undef) 0 73).toArray := by
  apply Array.ext'
  simp only
  refine frN_of 73 0 tm.toList _ (by simpa using h) (fun j hj => ?_)
  simp [List.getD_eq_getElem?_getD, Array.getD_eq_getD_getElem?]

/-! ### leaving with marks alone -/
def mark (r : Nat) : Deferred := { target := .collected r, args := #[] }
theorem leaves_marks {F : Fence} {n : Nat} {P : Program} {fn : Func} {tmps : Array Value} {R : Ending → World → Prop} : ∀ (rs : List Nat) (w : World), rs.Nodup → (∀ r ∈ rs, w.heap[r]? = some (.deferred (some []))) →
    (∀ w', Mods (· ∈ rs) w w' → ∃ v, (results fn tmps).run P w' = .ok v w' ∧ R (.returned v) w') → LeavesInM F n P fn tmps R (rs.map mark) .returning w
  | [], w, _, _, h => by
    obtain ⟨v, h1, h2⟩ := h w (Mods.refl _ _)
    exact ⟨v, h1, h2⟩
  | r :: t, w, hn, hk, h => by
    rw [List.nodup_cons] at hn
    have h0 := hk r (List.mem_cons_self ..)
    refine ⟨by simp, .inl ⟨r, _, rfl, run_takeDeferred h0, ?_⟩⟩
    refine leaves_marks t _ hn.2 (fun x hx => ?_) (fun w' hm => h w' (((Mods.putObj w r _).mono (T := (· ∈ r :: t)) (fun x _ e => by rw [e]; exact List.mem_cons_self ..)).trans hm (fun x _ hx => List.mem_cons_of_mem _ hx)))
    have hne : ¬ x = r := fun e => hn.1 (by rw [← e]; exact hx)
    exact (World.putObj_heap_other hne).trans (hk x (List.mem_cons_of_mem _ hx))

/-! ### what holds between two rounds -/
structure TkP (w w0 : World) (b mw mb Bb B5 : Nat) (rs : List Nat) : Prop where
  ws : w.heap.size ≤ w0.heap.size
  ff : ∀ x, FF b mw mb x → x < w.heap.size
  bb0 : w.heap.size ≤ Bb
  bb1 : Bb < w0.heap.size
  b50 : w.heap.size ≤ B5
  b51 : B5 < w0.heap.size
  ne : Bb ≠ B5
  rs : ∀ r ∈ rs, w.heap.size ≤ r ∧ r < w0.heap.size ∧ r ≠ Bb ∧ r ≠ B5
/-- σ: the follower; N: what was taken. -/
structure TkS (w w0 : World) (b mw mb Bb B5 : Nat) (rs : List Nat) (σ : FwSt) (N : List Ms) (nv : Value) (W : World) : Prop where
  fw : FwAt W b mw mb σ
  bb : Obj_ W Bb 1 (fun _ => .pointer (some ⟨b, 0, none⟩))
  b5 : Obj_ W B5 1 (fun _ => nv)
  own : OwnMs W nv N
  nf : ∀ x, nv.ownBlock = some x → w.heap.size ≤ x ∧ x ≠ Bb ∧ x ≠ B5 ∧ x ∉ rs ∧ ¬ Bk w0 x
  rs : ∀ r ∈ rs, W.heap[r]? = some (.deferred (some []))
  e : Mods (FF b mw mb) w W
def TkT (b mw B5 : Nat) (nv : Value) (x : Nat) : Prop := x = b ∨ x = mw ∨ x = B5 ∨ nv.ownBlock = some x
theorem TkS.mods {w w0 W W' : World} {b mw mb Bb B5 : Nat} {rs : List Nat} {σ : FwSt} {N : List Ms} {nv : Value} {S : Nat → Prop} (hP : TkP w w0 b mw mb Bb B5 rs) (h : TkS w w0 b mw mb Bb B5 rs σ N nv W) (hm : Mods S W W') (hS : ∀ x, S x → w0.heap.size ≤ x ∧ ¬ TkT b mw B5 nv x) :
    TkS w w0 b mw mb Bb B5 rs σ N nv W' := by
  have hws := hP.ws
  refine ⟨h.fw.mods hm (fun x hx hs => by have := hP.ff x hx; have := (hS x hs).1; omega), h.bb.mods hm (fun hs => by have := (hS _ hs).1; have := hP.bb1; omega), h.b5.mods hm (fun hs => by have := (hS _ hs).1; have := hP.b51; omega), h.own.mods hm (fun x hx hs => (hS x hs).2 (.inr (.inr (.inr hx)))), h.nf, fun r hr => ?_, ?_⟩
  · have h1 := h.rs r hr
    exact (hm.block r (Array.getElem?_eq_some_iff.1 h1).1 (fun hs => by have := (hS r hs).1; have := (hP.rs r hr).2.1; omega)).trans h1
  · exact h.e.trans hm (fun x hx hs => by have := (hS x hs).1; omega)
theorem TkS.ext' {w w0 W W' : World} {b mw mb Bb B5 : Nat} {rs : List Nat} {σ : FwSt} {N : List Ms} {nv : Value} (hP : TkP w w0 b mw mb Bb B5 rs) (h : TkS w w0 b mw mb Bb B5 rs σ N nv W) (he : Ext W W') : TkS w w0 b mw mb Bb B5 rs σ N nv W' := h.mods hP (he.mods (fun _ => False)) (fun _ h => h.elim)
theorem TkS.lt {w w0 W : World} {b mw mb Bb B5 : Nat} {rs : List Nat} {σ : FwSt} {N : List Ms} {nv : Value} (h : TkS w w0 b mw mb Bb B5 rs σ N nv W) : ∀ x, TkT b mw B5 nv x → x < W.heap.size := by
  rintro x (rfl | rfl | rfl | hx)
  · exact h.fw.o.lt
  · exact h.fw.wm.lt
  · exact h.b5.lt
  · exact h.own.lt hx
theorem TkS.nb {w w0 W : World} {b mw mb Bb B5 : Nat} {rs : List Nat} {σ : FwSt} {N : List Ms} {nv : Value} (hP : TkP w w0 b mw mb Bb B5 rs) (h : TkS w w0 b mw mb Bb B5 rs σ N nv W) : ∀ x, Bk w0 x → ¬ TkT b mw B5 nv x := by
  have hws := hP.ws
  rintro x hx (rfl | rfl | rfl | hn)
  · have := hP.ff _ (.inl rfl); unfold Bk at hx; omega
  · have := hP.ff _ (.inr (.inl rfl)); unfold Bk at hx; omega
  · have := hP.b51; unfold Bk at hx; omega
  · exact (h.nf x hn).2.2.2.2 hx
/-- The follower has changed. -/
theorem TkS.fw' {w w0 W W' : World} {b mw mb Bb B5 : Nat} {rs : List Nat} {σ σ' : FwSt} {N : List Ms} {nv : Value} (hP : TkP w w0 b mw mb Bb B5 rs) (h : TkS w w0 b mw mb Bb B5 rs σ N nv W) (hf : FwAt W' b mw mb σ') (hm : Mods (FF b mw mb) W W') : TkS w w0 b mw mb Bb B5 rs σ' N nv W' := by
  have hff := hP.ff
  refine ⟨hf, h.bb.mods hm (fun hs => by have := hff _ hs; have := hP.bb0; omega), h.b5.mods hm (fun hs => by have := hff _ hs; have := hP.b50; omega), h.own.mods hm (fun x hx hs => by have := hff _ hs; have := (h.nf x hx).1; omega), h.nf, fun r hr => ?_, h.e.trans hm (fun x _ hs => hs)⟩
  have h1 := h.rs r hr
  exact (hm.block r (Array.getElem?_eq_some_iff.1 h1).1 (fun hs => by have := hff _ hs; have := (hP.rs r hr).1; omega)).trans h1
/-- The list has grown. -/
theorem TkS.grow {w w0 W W1 W2 : World} {b mw mb Bb B5 : Nat} {rs : List Nat} {σ : FwSt} {N N' : List Ms} {nv nv' : Value} (hP : TkP w w0 b mw mb Bb B5 rs) (h : TkS w w0 b mw mb Bb B5 rs σ N nv W) (h0 : w0.heap.size + 2 ≤ W.heap.size)
    (a1 : OwnMs W1 nv' N') (a2 : Mods (fun c => nv.ownBlock = some c) W W1) (a3 : ∀ c, nv'.ownBlock = some c → nv.ownBlock = some c ∨ W.heap.size ≤ c) (st : Ext (W1.setCell ⟨B5, 0, none⟩ nv') W2) : TkS w w0 b mw mb Bb B5 rs σ N' nv' W2 := by
  have m1 : Mods (· = B5) W1 W2 := (Mods.setCell W1 B5 0 nv').then_ st
  have M : Mods (fun x => nv.ownBlock = some x ∨ x = B5) W W2 := (a2.mono (T := fun x => nv.ownBlock = some x ∨ x = B5) (fun x _ h => .inl h)).trans m1 (fun x _ h => .inr h)
  have hws := hP.ws
  have hff := hP.ff
  have hnf : ∀ x, nv'.ownBlock = some x → w.heap.size ≤ x ∧ x ≠ Bb ∧ x ≠ B5 ∧ x ∉ rs ∧ ¬ Bk w0 x := fun x hx => by
    rcases a3 x hx with e | e
    · exact h.nf x e
    · have := hP.bb1
      have := hP.b51
      exact ⟨by omega, by omega, by omega, fun hr => by have := (hP.rs x hr).2.1; omega, by unfold Bk; omega⟩
  refine ⟨h.fw.mods M (fun x hx hs => ?_), h.bb.mods M (fun hs => ?_), ?_, a1.mods m1 (fun x hx e => (hnf x hx).2.2.1 e), hnf, fun r hr => ?_, h.e.trans M (fun x hx hs => ?_)⟩
  · have := hff x hx
    rcases hs with hs | hs
    · have := (h.nf x hs).1; omega
    · have := hP.b50; omega
  · rcases hs with hs | hs
    · exact (h.nf _ hs).2.1 rfl
    · exact hP.ne hs
  · exact (((h.b5.mods a2 (fun e => (h.nf _ e).2.2.1 rfl)).set (i := 0) (by decide) nv').ext st).congr (fun i hi => by unfold upd; rw [if_pos (by omega)])
  · have h1 := h.rs r hr
    refine (M.block r (Array.getElem?_eq_some_iff.1 h1).1 (fun hs => ?_)).trans h1
    rcases hs with hs | hs
    · exact (h.nf r hs).2.2.2.1 hr
    · exact (hP.rs r hr).2.2.2 hs
  · rcases hs with hs | hs
    · have := (h.nf x hs).1; omega
    · have := hP.b50; omega
end Go.Proofs.Ytokljdkeegdniaa
