/-
  A RANGE OVER A FUNCTION, in the words of Mods and Ext: what holds between two rounds (I), what holds when a round has left by a jump (Ix); the iterator by a contract over whatever rounds.
-/
import Derived.Test.YtokljdkeegdniaaSteps2
import Derived.Test.YtokljdkeegdniaaMem
import Derived.RangeFuncNested
import Derived.RangeFuncBound
import Derived.RangeFuncLeaves
import Derived.Deep.Cut
import Derived.WalkSpells
import Derived.Scope
namespace Go.Proofs.Ytokljdkeegdniaa
open Go.RowKit

theorem Mods.putObj (w : World) (l : Nat) (o : Obj) : Mods (· = l) w (w.putObj l o) :=
  ⟨rfl, rfl, rfl, by simp [World.putObj], fun k _ hk => World.putObj_heap_other hk⟩

/-! ### a scope within a fence, gone through without a goto -/
section
variable {P : Program} {F : Fence} {n : Nat} {b : Frame} {a : Act} {k : List Item} {cs : List Frame} {w : World} {Q : Exit → Act → World → Prop}
theorem stepR_scope {c : Code} : step P (lone (b.atR a (.code (.scope c) :: k)) cs w) = .next (lone (b.atR a (.code c :: .inScope c :: k)) cs w) :=
  step_lone_go (by simp [stepG, stepG.exec, Frame.atR])
theorem stepR_inScope {c : Code} : step P (lone (b.atR a (.inScope c :: k)) cs w) = .next (lone (b.atR a k) cs w) :=
  step_lone_go (by simp [stepG, stepG.exec, Frame.atR])
theorem wpIn_scope_straight {c : Code} (h : c.wpIn F n P (Exit.noGoto Q) a w) : (Code.scope c).wpIn F n P Q a w := by
  intro b k cs hro hb hr
  have h0 : (lone (b.atR a (.code (.scope c) :: k)) cs w).fenced P F := fenced_calm hb hr rfl
  obtain ⟨e, a₁, w₁, hq, harr⟩ := h b (.inScope c :: k) cs hro hb hr
  cases e with
  | normal => exact ⟨.normal, a₁, w₁, hq, .head h0 stepR_scope (StepsIn.trans harr (.one (fenced_calm hb hr rfl) stepR_inScope))⟩
  | exit id =>
    have hx : exitTo id (.inScope c :: k) = exitTo id k := by simp [exitTo]
    exact ⟨_, a₁, w₁, hq, fun k' hk => .head h0 stepR_scope (harr.1 k' (by rw [hx]; exact hk)),
      fun hr' hk => let ⟨k₁, h1, h2⟩ := harr.2 hr' (by rw [hx]; exact hk); ⟨k₁, h1, .head h0 stepR_scope h2⟩⟩
  | goto l => exact hq.elim
  | ret => exact ⟨_, a₁, w₁, hq, .of_steps (.one h0 stepR_scope) harr⟩
  | panic ch => exact ⟨_, a₁, w₁, hq, .of_steps (.one h0 stepR_scope) harr⟩
  | outgrown => exact ⟨_, a₁, w₁, hq, .of_steps (.one h0 stepR_scope) harr⟩
end

/-- The two blocks of a loop's book-keeping, the loop beginning at w. -/
def Bk (w : World) (x : Nat) : Prop := x = w.heap.size ∨ x = w.heap.size + 1
structure KeepsBk (w W W' : World) : Prop where
  size : W.heap.size ≤ W'.heap.size
  D : W'.heap[w.heap.size]? = W.heap[w.heap.size]?
  L : W'.heap[w.heap.size + 1]? = W.heap[w.heap.size + 1]?
theorem KeepsBk.of_mods {w W W' : World} {S : Nat → Prop} (h : Mods S W W') (hs : w.heap.size + 2 ≤ W.heap.size) (hD : ¬ S w.heap.size) (hL : ¬ S (w.heap.size + 1)) : KeepsBk w W W' :=
  ⟨h.size, h.block _ (by omega) hD, h.block _ (by omega) hL⟩
def bodyR (w : World) (I : Nat → World → Prop) (Ix : Code → Nat → World → Prop) (k : Nat) (W : World) : Exit → Act → World → Prop
  | .normal, _, W' => KeepsBk w W W' ∧ I k W'
  | .ret, _, W' => KeepsBk w W W' ∧ Ix .ret k W'
  | .exit id, _, W' => KeepsBk w W W' ∧ Ix (.exit id) k W'
  | .goto t, _, W' => KeepsBk w W W' ∧ Ix (.goto t) k W'
  | .panic _, _, _ => False
  | .outgrown, _, _ => False

/-- An iterator's contract: N rounds at most; encs k is what the k-th round is handed; I tells what the caller keeps true between two rounds (the iterator may read it). -/
def IterG (F : Fence) (n : Nat) (P : Program) (gf : Nat) (lb : Array Value) (encs : Nat → Array Value) (N : Nat) (I : Nat → World → Prop) (W : World) : Prop :=
  ∀ (l : Nat) (J Jx : Nat → World → Prop), (∀ k, StableF (J k)) → (∀ k, StableF (Jx k)) → (∀ k W, J k W → I k W) →
    (∀ k W, k < N → J k W → YieldAt F (n - 1) P l (encs k) W (fun e W' => (e = .returned (.bool true) ∧ J (k + 1) W') ∨ (e = .returned (.bool false) ∧ Jx (k + 1) W'))) →
    J 0 W → CallsIn F n P gf (#[.func (.yield l) #[] #[]] ++ lb) W (fun e W' => (∃ v, e = .returned v) ∧ (J N W' ∨ ∃ k, k ≤ N ∧ Jx k W'))

section
variable {F : Fence} {n : Nat} {P : Program}
theorem rangeFunc_law {g : Operand} {ps : Array Tmp} {assign body : Code} {Q : Exit → Act → World → Prop} {a : Act} {w : World}
    (hF : WideF F) (hro : F.round = none) {gf : Nat} {lb : Array Value} (hg : a.eval g = .func (.func gf) #[] lb) (eg : ∀ args w, (callFunc gf args).run P w = .ok (.enter gf args) w)
    (N : Nat) (encs : Nat → Array Value) (hps : ∀ k, k < N → (encs k).size = ps.size)
    (I : Nat → World → Prop) (Ix : Code → Nat → World → Prop) (hI : ∀ k W W', I k W → Mods (Bk w) W W' → I k W') (hIx : ∀ c k W W', Ix c k W → Mods (Bk w) W W' → Ix c k W')
    (h0 : I 0 w) (hseq : ∀ W, Mods (Bk w) w W → IterG F (n - 1) P gf lb encs N I W) (A : Nat → Act → World → Prop) (hA : ∀ k a' W W', A k a' W → Mods (Bk w) W W' → A k a' W')
    (hassign : ∀ (l k : Nat) (W : World), k < N → I k W → w.heap.size + 2 ≤ W.heap.size →
      assign.wpIn (F.inRound l) (n - 1 - 1) P (Exit.then (fun a' W' => Ext W W' ∧ A k a' W') (fun _ _ _ => False)) { tmps := (ps.zip (encs k)).foldl (fun t (p, v) => t.setIfInBounds p v) a.tmps, defers := [] } W)
    (hbody : ∀ (l k : Nat) (a' : Act) (W : World), k < N → A k a' W → w.heap.size + 2 ≤ W.heap.size → body.wpIn (F.inRound l) (n - 1 - 1) P (bodyR w I Ix (k + 1) W) a' W)
    (hdone : ∀ (W : World), I N W → W.heap[w.heap.size]? = some (.deferred (some [])) → w.heap.size + 2 ≤ W.heap.size → Q .normal { a with defers := { target := .collected w.heap.size, args := #[] } :: a.defers } W)
    (hstop : ∀ (c : Code) (k : Nat) (W : World), k ≤ N → Ix c k W → W.heap[w.heap.size]? = some (.deferred (some [])) → w.heap.size + 2 ≤ W.heap.size → c.wpIn F n P Q { a with defers := { target := .collected w.heap.size, args := #[] } :: a.defers } W) :
    (Code.rangeFunc g ps assign body).wpIn F n P Q a w := by
  refine wpIn_rangeFunc ?_
  intro fn hfn
  rw [hro]
  obtain ⟨rec, hrec⟩ : ∃ rec : LoopState → Option Code → Loop, rec = fun st pe => { state := st, pending := pe, fn, tmps := a.tmps, params := ps, assign, body, defers := w.heap.size } := ⟨_, rfl⟩
  obtain ⟨W1, hW1⟩ : ∃ W1, (w.alloc (.deferred (some []))).alloc (.loop (rec .ready none)) = W1 := ⟨_, rfl⟩
  have hE1 : Ext w W1 := by rw [← hW1]; exact (Ext.alloc w _).trans (Ext.alloc _ _)
  have hs1 : W1.heap.size = w.heap.size + 2 := by rw [← hW1]; simp
  have hL1 : W1.heap[w.heap.size + 1]? = some (.loop (rec .ready none)) := by
    rw [← hW1]; have := World.alloc_heap_new (w.alloc (.deferred (some []))) (.loop (rec .ready none)); rwa [World.size_alloc] at this
  have hK1 : W1.heap[w.heap.size]? = some (.deferred (some [])) := by
    rw [← hW1]; exact (Below.heap_alloc _ _ _ (by simp)).trans (World.alloc_heap_new w _)
  refine ⟨w.heap.size + 1, [{ target := .collected w.heap.size, args := #[] }], W1, { target := .fn (.func gf) lb, args := #[.func (.yield (w.heap.size + 1)) #[] #[]] }, W1, gf,
    #[.func (.yield (w.heap.size + 1)) #[] #[]] ++ lb, W1, ?_, ?_, ?_, ?_, fun hs => (by rw [hF.depth] at hs; cases hs), ?_⟩
  · rw [← hW1, hrec]; exact run_enterLoop_outer _ _ _ _ _
  · simp only [resolve, hg]
    simp [go_sem]
  · intro f' _; exact hF.fn f'
  · simp [invoke, go_sem, eg]
  · refine (hseq W1 (hE1.mods _) (w.heap.size + 1)
      (fun k W => I k W ∧ W.heap[w.heap.size + 1]? = some (.loop (rec .ready none)) ∧ W.heap[w.heap.size]? = some (.deferred (some [])))
      (fun k W => ∃ c, Ix c k W ∧ W.heap[w.heap.size + 1]? = some (.loop (rec .done (some c))) ∧ W.heap[w.heap.size]? = some (.deferred (some [])))
      (fun k W W' h e => ⟨hI k W W' h.1 (e.mods _), (e.blk (Array.getElem?_eq_some_iff.1 h.2.1).1).trans h.2.1, (e.blk (Array.getElem?_eq_some_iff.1 h.2.2).1).trans h.2.2⟩)
      (fun k W W' h e => by
        obtain ⟨c, h1, h2, h3⟩ := h
        exact ⟨c, hIx c k W W' h1 (e.mods _), (e.blk (Array.getElem?_eq_some_iff.1 h2).1).trans h2, (e.blk (Array.getElem?_eq_some_iff.1 h3).1).trans h3⟩)
      (fun k W h => h.1) ?_ ⟨hI 0 w W1 h0 (hE1.mods _), hL1, hK1⟩).mono ?_
    · -- ONE ROUND
      rintro k W hlen ⟨hi, hl, hk⟩
      have hlt : w.heap.size + 1 < W.heap.size := (Array.getElem?_eq_some_iff.1 hl).1
      have hy := run_yield (P := P) (args := encs k) hl (by rw [hrec]; exact hps k hlen)
      rw [hrec] at hy
      refine ⟨fn, _, assign, body, hy, roundIn_of_wpIn hfn (Code.wpIn_mono ?_ (hassign _ k W hlen hi (by omega)))⟩
      clear hy
      rintro e a' Wa hq
      cases e with
      | normal =>
        obtain ⟨hEa, hAa⟩ := hq
        replace hl := (hEa.blk hlt).trans hl
        replace hk := (hEa.blk (by omega : w.heap.size < W.heap.size)).trans hk
        replace hlt : w.heap.size + 1 < Wa.heap.size := (Array.getElem?_eq_some_iff.1 hl).1
        clear hEa hi
        refine ⟨_, run_beginRound hl (by rw [hrec]), ?_⟩
        have hl2 : (Wa.putObj (w.heap.size + 1) (.loop { rec .ready none with state := .busy })).heap[w.heap.size + 1]? = some (.loop { rec .ready none with state := .busy }) := World.putObj_heap_same hlt
        have hk2 : (Wa.putObj (w.heap.size + 1) (.loop { rec .ready none with state := .busy })).heap[w.heap.size]? = some (.deferred (some [])) := (World.putObj_heap_other (by omega)).trans hk
        have hsz : (Wa.putObj (w.heap.size + 1) (.loop { rec .ready none with state := .busy })).heap.size = Wa.heap.size := by simp [World.putObj]
        refine wpIn_mono (hbody _ k a' _ hlen (hA k a' Wa _ hAa ((Mods.putObj _ _ _).mono (fun x _ h => .inr h))) (by rw [hsz]; omega)) ?_
        have fin : ∀ (jump : Option Code) (W3 : World), KeepsBk w (Wa.putObj (w.heap.size + 1) (.loop { rec .ready none with state := .busy })) W3 →
            (Instr.endRound (w.heap.size + 1) jump).run P W3 = .ok (.bool jump.isNone) (W3.putObj (w.heap.size + 1) (.loop (rec (if jump.isNone then .ready else .done) jump))) ∧
            W3.heap[w.heap.size + 1]? = some (.loop { rec .ready none with state := .busy }) ∧
            (W3.putObj (w.heap.size + 1) (.loop (rec (if jump.isNone then .ready else .done) jump))).heap[w.heap.size + 1]? = some (.loop (rec (if jump.isNone then .ready else .done) jump)) ∧
            (W3.putObj (w.heap.size + 1) (.loop (rec (if jump.isNone then .ready else .done) jump))).heap[w.heap.size]? = some (.deferred (some [])) := fun jump W3 hk3 => by
          have hl3 := hk3.L.trans hl2
          have := run_endRound (P := P) jump hl3
          rw [hrec] at this ⊢
          exact ⟨this, by rw [hrec] at hl3; exact hl3, World.putObj_heap_same (Array.getElem?_eq_some_iff.1 hl3).1, (World.putObj_heap_other (by omega)).trans (hk3.D.trans hk2)⟩
        rintro e a3 W3 hp
        cases e with
        | normal =>
          obtain ⟨hk3, hi3⟩ := hp
          obtain ⟨hr, hl3, hl4, hk4⟩ := fin none W3 hk3
          exact ⟨_, _, hr, .inl ⟨rfl, hI _ _ _ hi3 ((Mods.putObj _ _ _).mono (fun x _ h => .inr h)), hl4, hk4⟩⟩
        | ret =>
          obtain ⟨hk3, hi3⟩ := hp
          obtain ⟨hr, hl3, hl4, hk4⟩ := fin (some .ret) W3 hk3
          exact ⟨_, _, hr, .inr ⟨rfl, .ret, hIx _ _ _ _ hi3 ((Mods.putObj _ _ _).mono (fun x _ h => .inr h)), hl4, hk4⟩⟩
        | exit id =>
          obtain ⟨hk3, hi3⟩ := hp
          obtain ⟨hr, hl3, hl4, hk4⟩ := fin (some (.exit id)) W3 hk3
          exact ⟨_, _, hr, .inr ⟨rfl, .exit id, hIx _ _ _ _ hi3 ((Mods.putObj _ _ _).mono (fun x _ h => .inr h)), hl4, hk4⟩⟩
        | goto t =>
          obtain ⟨hk3, hi3⟩ := hp
          obtain ⟨hr, hl3, hl4, hk4⟩ := fin (some (.goto t)) W3 hk3
          exact ⟨_, _, hr, .inr ⟨rfl, .goto t, hIx _ _ _ _ hi3 ((Mods.putObj _ _ _).mono (fun x _ h => .inr h)), hl4, hk4⟩⟩
        | panic ch => exact hp.elim
        | outgrown => exact hp.elim
      | _ => exact hq.elim
    · -- BEHIND THE ITERATOR
      rintro e W2 ⟨⟨v, rfl⟩, (⟨hi, hl, hk⟩ | ⟨k, hkN, c, hi, hl, hk⟩)⟩
      · have hlt : w.heap.size + 1 < W2.heap.size := (Array.getElem?_eq_some_iff.1 hl).1
        exact ⟨none, _, by have := run_endLoop (P := P) hl (by rw [hrec]; simp); rw [hrec] at this; exact this, hdone _ (hI _ _ _ hi ((Mods.putObj _ _ _).mono (fun x _ h => .inr h))) ((World.putObj_heap_other (by omega)).trans hk) (by simp [World.putObj]; omega)⟩
      · have hlt : w.heap.size + 1 < W2.heap.size := (Array.getElem?_eq_some_iff.1 hl).1
        exact ⟨some c, _, by have := run_endLoop (P := P) hl (by rw [hrec]; simp); rw [hrec] at this; exact this, hstop c k _ hkN (hIx c _ _ _ hi ((Mods.putObj _ _ _).mono (fun x _ h => .inr h))) ((World.putObj_heap_other (by omega)).trans hk) (by simp [World.putObj]; omega)⟩
end
end Go.Proofs.Ytokljdkeegdniaa
