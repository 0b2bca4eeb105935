/-
  A RANGE OVER A FUNCTION whose iterator keeps variables of its own across a round: the rounds tell which blocks they may write (T), the iterator's own are none of them.
-/
import Derived.Test.YtokljdkeegdniaaRange
namespace Go.Proofs.Ytokljdkeegdniaa
open Go.RowKit

/-- An iterator's contract: N rounds at most; encs k is what the k-th round is handed; I tells what the caller keeps true between two rounds (the iterator may read it). -/
def IterT (F : Fence) (n : Nat) (P : Program) (gf : Nat) (lb : Array Value) (encs : Nat → Array Value) (N : Nat) (I : Nat → World → Prop) (W : World) : Prop :=
  ∀ (l : Nat) (J Jx : Nat → (Nat → Prop) → World → Prop) (T0 : Nat → Prop), (∀ k T W1 W2 (S : Nat → Prop), J k T W1 → Mods S W1 W2 → (∀ x, S x → W.heap.size ≤ x ∧ ¬ T x) → J k T W2) → (∀ k T, StableF (Jx k T)) → (∀ k T W, J k T W → I k W) →
    (∀ k T W, k < N → J k T W → YieldAt F (n - 1) P l (encs k) W (fun e W' => ∃ T', Mods T W W' ∧ (∀ x, T' x → T x ∨ W.heap.size ≤ x) ∧ (∀ x, T' x → x < W'.heap.size) ∧ ((e = .returned (.bool true) ∧ J (k + 1) T' W') ∨ (e = .returned (.bool false) ∧ Jx (k + 1) T' W')))) →
    J 0 T0 W → (∀ x, T0 x → x < W.heap.size) → CallsIn F n P gf (#[.func (.yield l) #[] #[]] ++ lb) W (fun e W' => (∃ v, e = .returned v) ∧ ∃ T, (J N T W' ∨ ∃ k, k ≤ N ∧ Jx k T W'))
/-- What a round's body may leave: T, the blocks that it may write; new ones come to them. -/
def bodyT (I : Nat → (Nat → Prop) → World → Prop) (Ix : Code → Nat → World → Prop) (T : Nat → Prop) (k : Nat) (W : World) : Exit → Act → World → Prop
  | .normal, _, W' => ∃ T', Mods T W W' ∧ (∀ x, T' x → T x ∨ W.heap.size ≤ x) ∧ I k T' W'
  | .ret, _, W' => Mods T W W' ∧ Ix .ret k W'
  | .exit id, _, W' => Mods T W W' ∧ Ix (.exit id) k W'
  | .goto t, _, W' => Mods T W W' ∧ Ix (.goto t) k W'
  | .panic _, _, _ => False
  | .outgrown, _, _ => False

section
variable {F : Fence} {n : Nat} {P : Program}
theorem rangeFunc_lawT {g : Operand} {ps : Array Tmp} {assign body : Code} {Q : Exit → Act → World → Prop} {a : Act} {w : World}
    (hF : WideF F) (hro : F.round = none) {gf : Nat} {lb : Array Value} (hg : a.eval g = .func (.func gf) #[] lb) (eg : ∀ args w, (callFunc gf args).run P w = .ok (.enter gf args) w)
    (N : Nat) (encs : Nat → Array Value) (hps : ∀ k, k < N → (encs k).size = ps.size)
    (I : Nat → (Nat → Prop) → World → Prop) (Ii : Nat → World → Prop) (Ix : Code → Nat → World → Prop) (hII : ∀ k T W, I k T W → Ii k W) (hTB : ∀ k T W, I k T W → ∀ x, Bk w x → ¬ T x) (hTl : ∀ k T W, I k T W → ∀ x, T x → x < W.heap.size)
    (hI : ∀ k T W W' (S : Nat → Prop), I k T W → Mods S W W' → (∀ x, S x → w.heap.size ≤ x ∧ ¬ T x) → I k T W') (hIx : ∀ c k W W', Ix c k W → Mods (Bk w) W W' → Ix c k W')
    (T0 : Nat → Prop) (hT0 : ∀ x, T0 x → x < w.heap.size) (h0 : I 0 T0 w) (hseq : ∀ W, Mods (Bk w) w W → IterT F (n - 1) P gf lb encs N Ii W)
    (A : Nat → (Nat → Prop) → Act → World → Prop) (hA : ∀ k T a' W W', A k T a' W → Mods (Bk w) W W' → A k T a' W')
    (hassign : ∀ (l k : Nat) (T : Nat → Prop) (W : World), k < N → I k T W → w.heap.size + 2 ≤ W.heap.size →
      assign.wpIn (F.inRound l) (n - 1 - 1) P (Exit.then (fun a' W' => Ext W W' ∧ A k T a' W') (fun _ _ _ => False)) { tmps := (ps.zip (encs k)).foldl (fun t (p, v) => t.setIfInBounds p v) a.tmps, defers := [] } W)
    (hbody : ∀ (l k : Nat) (T : Nat → Prop) (a' : Act) (W : World), k < N → A k T a' W → w.heap.size + 2 ≤ W.heap.size → body.wpIn (F.inRound l) (n - 1 - 1) P (bodyT I Ix T (k + 1) W) a' W)
    (hdone : ∀ (T : Nat → Prop) (W : World), I N T W → W.heap[w.heap.size]? = some (.deferred (some [])) → w.heap.size + 2 ≤ W.heap.size → Q .normal { a with defers := { target := .collected w.heap.size, args := #[] } :: a.defers } W)
    (hstop : ∀ (c : Code) (k : Nat) (W : World), k ≤ N → Ix c k W → W.heap[w.heap.size]? = some (.deferred (some [])) → w.heap.size + 2 ≤ W.heap.size → c.wpIn F n P Q { a with defers := { target := .collected w.heap.size, args := #[] } :: a.defers } W) :
    (Code.rangeFunc g ps assign body).wpIn F n P Q a w := by
  have hBk : ∀ {k : Nat} {T : Nat → Prop} {W W' : World}, I k T W → Mods (Bk w) W W' → I k T W' := fun {k T W W'} h hm => hI k T W W' (Bk w) h hm (fun x hx => ⟨by unfold Bk at hx; omega, hTB k T W h x hx⟩)
  refine wpIn_rangeFunc ?_
  intro fn hfn
  rw [hro]
  obtain ⟨rec, hrec⟩ : ∃ rec : LoopState → Option Code → Loop, rec = fun st pe => { state := st, pending := pe, fn, tmps := a.tmps, params := ps, assign, body, defers := w.heap.size } := ⟨_, rfl⟩
  obtain ⟨W1, hW1⟩ : ∃ W1, (w.alloc (.deferred (some []))).alloc (.loop (rec .ready none)) = W1 := ⟨_, rfl⟩
  have hE1 : Ext w W1 := by rw [← hW1]; exact (Ext.alloc w _).trans (Ext.alloc _ _)
  have hs1 : W1.heap.size = w.heap.size + 2 := by rw [← hW1]; simp
  have hL1 : W1.heap[w.heap.size + 1]? = some (.loop (rec .ready none)) := by
    rw [← hW1]; have := World.alloc_heap_new (w.alloc (.deferred (some []))) (.loop (rec .ready none)); rwa [World.size_alloc] at this
  have hK1 : W1.heap[w.heap.size]? = some (.deferred (some [])) := by
    rw [← hW1]; exact (Below.heap_alloc _ _ _ (by simp)).trans (World.alloc_heap_new w _)
  refine ⟨w.heap.size + 1, [{ target := .collected w.heap.size, args := #[] }], W1, { target := .fn (.func gf) lb, args := #[.func (.yield (w.heap.size + 1)) #[] #[]] }, W1, gf,
    #[.func (.yield (w.heap.size + 1)) #[] #[]] ++ lb, W1, ?_, ?_, ?_, ?_, fun hs => (by rw [hF.depth] at hs; cases hs), ?_⟩
  · rw [← hW1, hrec]; exact run_enterLoop_outer _ _ _ _ _
  · simp only [resolve, hg]
    simp [go_sem]
  · intro f' _; exact hF.fn f'
  · simp [invoke, go_sem, eg]
  · refine (hseq W1 (hE1.mods _) (w.heap.size + 1)
      (fun k TJ W => ∃ T, (∀ x, TJ x ↔ (T x ∨ Bk w x)) ∧ I k T W ∧ W.heap[w.heap.size + 1]? = some (.loop (rec .ready none)) ∧ W.heap[w.heap.size]? = some (.deferred (some [])))
      (fun k _ W => ∃ c, Ix c k W ∧ W.heap[w.heap.size + 1]? = some (.loop (rec .done (some c))) ∧ W.heap[w.heap.size]? = some (.deferred (some [])))
      (fun x => T0 x ∨ Bk w x)
      (fun k TJ W W' S h e hS => by
        obtain ⟨T, h0, h1, h2, h3⟩ := h
        have hS1 := fun h => (hS (w.heap.size + 1) h).1
        have hS2 := fun h => (hS w.heap.size h).1
        exact ⟨T, h0, hI k T W W' S h1 e (fun x hx => ⟨by have := (hS x hx).1; omega, fun ht => (hS x hx).2 ((h0 x).2 (.inl ht))⟩), (e.block _ (Array.getElem?_eq_some_iff.1 h2).1 (fun h => by have := hS1 h; omega)).trans h2, (e.block _ (Array.getElem?_eq_some_iff.1 h3).1 (fun h => by have := hS2 h; omega)).trans h3⟩)
      (fun k TJ W W' h e => by
        obtain ⟨c, h1, h2, h3⟩ := h
        exact ⟨c, hIx c k W W' h1 (e.mods _), (e.blk (Array.getElem?_eq_some_iff.1 h2).1).trans h2, (e.blk (Array.getElem?_eq_some_iff.1 h3).1).trans h3⟩)
      (fun k TJ W h => let ⟨T, _, h1, _⟩ := h; hII k T W h1) ?_ ⟨T0, fun _ => Iff.rfl, hI 0 T0 w W1 (fun _ => False) h0 (hE1.mods _) (fun _ h => h.elim), hL1, hK1⟩ (fun x hx => by
        rcases hx with hx | hx
        · have := hT0 x hx; omega
        · unfold Bk at hx; omega)).mono ?_
    · -- ONE ROUND
      rintro k TJ W hlen ⟨T, hTJ, hi, hl, hk⟩
      have hTb := hTB k T W hi
      have hTlt := hTl k T W hi
      have hlt0 : w.heap.size + 1 < W.heap.size := (Array.getElem?_eq_some_iff.1 hl).1
      have hlt : w.heap.size + 1 < W.heap.size := (Array.getElem?_eq_some_iff.1 hl).1
      have hy := run_yield (P := P) (args := encs k) hl (by rw [hrec]; exact hps k hlen)
      rw [hrec] at hy
      refine ⟨fn, _, assign, body, hy, roundIn_of_wpIn hfn (Code.wpIn_mono ?_ (hassign _ k T W hlen hi (by omega)))⟩
      clear hy
      rintro e a' Wa hq
      cases e with
      | normal =>
        obtain ⟨hEa, hAa⟩ := hq
        have hEa2 := hEa
        replace hl := (hEa.blk hlt).trans hl
        replace hk := (hEa.blk (by omega : w.heap.size < W.heap.size)).trans hk
        replace hlt : w.heap.size + 1 < Wa.heap.size := (Array.getElem?_eq_some_iff.1 hl).1
        clear hEa hi
        have hsW := hEa2.size
        refine ⟨_, run_beginRound hl (by rw [hrec]), ?_⟩
        have hl2 : (Wa.putObj (w.heap.size + 1) (.loop { rec .ready none with state := .busy })).heap[w.heap.size + 1]? = some (.loop { rec .ready none with state := .busy }) := World.putObj_heap_same hlt
        have hk2 : (Wa.putObj (w.heap.size + 1) (.loop { rec .ready none with state := .busy })).heap[w.heap.size]? = some (.deferred (some [])) := (World.putObj_heap_other (by omega)).trans hk
        have hsz : (Wa.putObj (w.heap.size + 1) (.loop { rec .ready none with state := .busy })).heap.size = Wa.heap.size := by simp [World.putObj]
        refine wpIn_mono (hbody _ k T a' _ hlen (hA k T a' Wa _ hAa ((Mods.putObj _ _ _).mono (fun x _ h => .inr h))) (by rw [hsz]; omega)) ?_
        have fin : ∀ (jump : Option Code) (W3 : World), KeepsBk w (Wa.putObj (w.heap.size + 1) (.loop { rec .ready none with state := .busy })) W3 →
            (Instr.endRound (w.heap.size + 1) jump).run P W3 = .ok (.bool jump.isNone) (W3.putObj (w.heap.size + 1) (.loop (rec (if jump.isNone then .ready else .done) jump))) ∧
            W3.heap[w.heap.size + 1]? = some (.loop { rec .ready none with state := .busy }) ∧
            (W3.putObj (w.heap.size + 1) (.loop (rec (if jump.isNone then .ready else .done) jump))).heap[w.heap.size + 1]? = some (.loop (rec (if jump.isNone then .ready else .done) jump)) ∧
            (W3.putObj (w.heap.size + 1) (.loop (rec (if jump.isNone then .ready else .done) jump))).heap[w.heap.size]? = some (.deferred (some [])) := fun jump W3 hk3 => by
          have hl3 := hk3.L.trans hl2
          have := run_endRound (P := P) jump hl3
          rw [hrec] at this ⊢
          exact ⟨this, by rw [hrec] at hl3; exact hl3, World.putObj_heap_same (Array.getElem?_eq_some_iff.1 hl3).1, (World.putObj_heap_other (by omega)).trans (hk3.D.trans hk2)⟩
        have hTJlt : ∀ x, TJ x → x < W.heap.size := fun x hx => by
          rcases (hTJ x).1 hx with hx | hx
          · exact hTlt x hx
          · unfold Bk at hx; omega
        have allM : ∀ {W3 : World}, Mods T (Wa.putObj (w.heap.size + 1) (.loop { rec .ready none with state := .busy })) W3 → ∀ o, Mods TJ W (W3.putObj (w.heap.size + 1) o) := fun hm o =>
          (((hEa2.mods TJ).trans (Mods.putObj _ _ _) (fun x _ h => (hTJ x).2 (.inr (.inr h)))).trans hm (fun x _ h => (hTJ x).2 (.inl h))).trans (Mods.putObj _ _ _) (fun x _ h => (hTJ x).2 (.inr (.inr h)))
        have allS : ∀ {W3 : World}, Mods T (Wa.putObj (w.heap.size + 1) (.loop { rec .ready none with state := .busy })) W3 → ∀ o, W.heap.size ≤ (W3.putObj (w.heap.size + 1) o).heap.size := fun hm o => (allM hm o).size
        rintro e a3 W3 hp
        cases e with
        | normal =>
          obtain ⟨T', hm3, hT3, hi3⟩ := hp
          have hk3 : KeepsBk w _ W3 := KeepsBk.of_mods hm3 (by rw [hsz]; omega) (hTb _ (.inl rfl)) (hTb _ (.inr rfl))
          obtain ⟨hr, hl3, hl4, hk4⟩ := fin none W3 hk3
          exact ⟨_, _, hr, fun x => T' x ∨ Bk w x, allM hm3 _, fun x hx => by
            rcases hx with hx | hx
            · rcases hT3 x hx with h | h
              · exact .inl ((hTJ x).2 (.inl h))
              · exact .inr (by rw [hsz] at h; omega)
            · exact .inl ((hTJ x).2 (.inr hx)), fun x hx => by
            rcases hx with hx | hx
            · have := hTl _ _ _ hi3 x hx; simpa [World.putObj] using this
            · exact Nat.lt_of_lt_of_le (hTJlt x ((hTJ x).2 (.inr hx))) (allS hm3 _), .inl ⟨rfl, T', fun _ => Iff.rfl, hBk hi3 ((Mods.putObj _ _ _).mono (fun x _ h => .inr h)), hl4, hk4⟩⟩
        | ret =>
          obtain ⟨hm3, hi3⟩ := hp
          have hk3 : KeepsBk w _ W3 := KeepsBk.of_mods hm3 (by rw [hsz]; omega) (hTb _ (.inl rfl)) (hTb _ (.inr rfl))
          obtain ⟨hr, hl3, hl4, hk4⟩ := fin (some .ret) W3 hk3
          exact ⟨_, _, hr, TJ, allM hm3 _, fun x hx => .inl hx, fun x hx => Nat.lt_of_lt_of_le (hTJlt x hx) (allS hm3 _), .inr ⟨rfl, .ret, hIx _ _ _ _ hi3 ((Mods.putObj _ _ _).mono (fun x _ h => .inr h)), hl4, hk4⟩⟩
        | exit id =>
          obtain ⟨hm3, hi3⟩ := hp
          have hk3 : KeepsBk w _ W3 := KeepsBk.of_mods hm3 (by rw [hsz]; omega) (hTb _ (.inl rfl)) (hTb _ (.inr rfl))
          obtain ⟨hr, hl3, hl4, hk4⟩ := fin (some (.exit id)) W3 hk3
          exact ⟨_, _, hr, TJ, allM hm3 _, fun x hx => .inl hx, fun x hx => Nat.lt_of_lt_of_le (hTJlt x hx) (allS hm3 _), .inr ⟨rfl, .exit id, hIx _ _ _ _ hi3 ((Mods.putObj _ _ _).mono (fun x _ h => .inr h)), hl4, hk4⟩⟩
        | goto t =>
          obtain ⟨hm3, hi3⟩ := hp
          have hk3 : KeepsBk w _ W3 := KeepsBk.of_mods hm3 (by rw [hsz]; omega) (hTb _ (.inl rfl)) (hTb _ (.inr rfl))
          obtain ⟨hr, hl3, hl4, hk4⟩ := fin (some (.goto t)) W3 hk3
          exact ⟨_, _, hr, TJ, allM hm3 _, fun x hx => .inl hx, fun x hx => Nat.lt_of_lt_of_le (hTJlt x hx) (allS hm3 _), .inr ⟨rfl, .goto t, hIx _ _ _ _ hi3 ((Mods.putObj _ _ _).mono (fun x _ h => .inr h)), hl4, hk4⟩⟩
        | panic ch => exact hp.elim
        | outgrown => exact hp.elim
      | _ => exact hq.elim
    · -- BEHIND THE ITERATOR
      rintro e W2 ⟨⟨v, rfl⟩, TJ, (⟨T, hTJ, hi, hl, hk⟩ | ⟨k, hkN, c, hi, hl, hk⟩)⟩
      · have hlt : w.heap.size + 1 < W2.heap.size := (Array.getElem?_eq_some_iff.1 hl).1
        exact ⟨none, _, by have := run_endLoop (P := P) hl (by rw [hrec]; simp); rw [hrec] at this; exact this, hdone _ _ (hBk hi ((Mods.putObj _ _ _).mono (fun x _ h => .inr h))) ((World.putObj_heap_other (by omega)).trans hk) (by simp [World.putObj]; omega)⟩
      · have hlt : w.heap.size + 1 < W2.heap.size := (Array.getElem?_eq_some_iff.1 hl).1
        exact ⟨some c, _, by have := run_endLoop (P := P) hl (by rw [hrec]; simp); rw [hrec] at this; exact this, hstop c k _ hkN (hIx c _ _ _ hi ((Mods.putObj _ _ _).mono (fun x _ h => .inr h))) ((World.putObj_heap_other (by omega)).trans hk) (by simp [World.putObj]; omega)⟩
end
end Go.Proofs.Ytokljdkeegdniaa
