/-
  A REGION THAT DRAWS ITS ORDER OF EVALUATION IS WALKED ONCE, in one order that the prover picks, each operation under a label: 0 looks at no world; 1 yields one value in every world of the class and leaves all blocks as they lay; 2 the same, but what it yields is known by a property alone; 3 whatever else. The labels and the edges say which two operations may change places.
-/
import Derived.OrdersIn
import Derived.Below
import Derived.RangeFuncCalls
import Derived.OwnWalkIn
namespace Go.Proofs.Ytokljdkeegdniaa
open Go.RowKit

/-- A fence that lets everything in. -/
structure WideF (F : Fence) : Prop where
  fn : ∀ f, F.fn f
  depth : F.depth = none
  alive : F.alive = false

theorem wideF_wide : WideF Fence.wide := ⟨fun _ => trivial, rfl, rfl⟩
theorem WideF.inRound {F : Fence} (h : WideF F) (l : Nat) : WideF (F.inRound l) := ⟨h.fn, h.depth, h.alive⟩
theorem WideF.fenced {F : Fence} (h : WideF F) (P : Program) (m : Machine) : m.fenced P F := by
  intro g _
  refine ⟨fun ha => ?_, .inl (h.fn _), fun f _ => h.fn f, fun d hd => ?_⟩
  · rw [h.alive] at ha; cases ha
  · rw [h.depth] at hd; cases hd
theorem WideF.calls {F : Fence} (h : WideF F) {n : Nat} {P : Program} {f : FuncId} {args : Array Value} {w : World} {R : Ending → World → Prop}
    (hc : Calls P f args w R) : CallsIn F n P f args w R := by
  refine ⟨h.fn f, fun cs _ => ?_⟩
  obtain ⟨e, w', fr, r, s, x⟩ := hc cs
  refine ⟨e, w', fr, r, ?_, x⟩
  cases e with
  | returned v => exact (StepsIn.of_steps s).mono fun m _ => h.fenced P m
  | panicked ch => exact (StepsIn.of_steps s).mono fun m _ => h.fenced P m
  | outgrown => exact s

/-- w' holds all blocks of w as they lay; it may hold more. -/
def Ext (w w' : World) : Prop := Below w.heap.size w w'
theorem Ext.refl (w : World) : Ext w w := Below.refl _ w
theorem Ext.trans {a b c : World} (h : Ext a b) (k : Ext b c) : Ext a c := Below.trans h (Below.mono k h.size)

def StableF (C : World → Prop) : Prop := ∀ w w', C w → Ext w w' → C w'

def stepAt (P : Program) (o : Oper) (a : Act) (w : World) (R : Value → World → Prop) : Prop :=
  match (execOp a.eval o).run P w with
  | .ok (.value v) w' => R v w'
  | .ok .skip w' => R undef w'
  | .ok (.enter f args) w' => Calls P f args w' (fun e w'' => ∃ v, e = .returned v ∧ R v w'')
  | _ => False

theorem stepAt_mono {P : Program} {o : Oper} {a : Act} {w : World} {R R' : Value → World → Prop} (h : stepAt P o a w R) (hr : ∀ v w', R v w' → R' v w') : stepAt P o a w R' := by
  unfold stepAt at *
  generalize (execOp a.eval o).run P w = r at *
  cases r with
  | ok x w' =>
    cases x <;> simp only at h ⊢ <;> first | exact hr _ _ h | exact h.mono (fun e w'' ⟨v, he, hv⟩ => ⟨v, he, hr _ _ hv⟩)
  | halt x w' => exact h

def wpF (P : Program) (ops : Array Oper) (Q : Act → World → Prop) : List (Oper × Nat) → (World → Prop) → Act → Prop
  | [], C, a => ∀ w, C w → Q a w
  | (o, lab) :: rest, C, a =>
    if Region.wanted o (yielded ops a.tmps) then
      match lab with
      | 0 => ∃ v, (∀ w, (execOp a.eval o).run P w = .ok (.value v) w) ∧ wpF P ops Q rest C (a.put o.dst v)
      | 1 => ∃ v, (∀ w, C w → stepAt P o a w (fun u w' => u = v ∧ Ext w w')) ∧ wpF P ops Q rest C (a.put o.dst v)
      | 2 => ∃ (β : Type) (val : β → Value) (R : β → World → Prop), Nonempty β ∧ (∀ v, StableF (R v)) ∧ (∀ w, C w → stepAt P o a w (fun u w' => ∃ b, u = val b ∧ Ext w w' ∧ R b w')) ∧ ∀ v, wpF P ops Q rest (fun w => C w ∧ R v w) (a.put o.dst (val v))
      | _ => ∃ (β : Type) (val : β → Value) (R : β → World → Prop), Nonempty β ∧ (∀ v, StableF (R v)) ∧ (∀ w, C w → stepAt P o a w (fun u w' => ∃ b, u = val b ∧ R b w')) ∧ ∀ v, wpF P ops Q rest (R v) (a.put o.dst (val v))
    else wpF P ops Q rest C (a.put o.dst undef)

section
variable {P : Program} {ops : Array Oper} {Q : Act → World → Prop}

theorem wpF_class {l : List (Oper × Nat)} : ∀ {C C' : World → Prop} {a : Act}, (∀ w, C' w → C w) → wpF P ops Q l C a → wpF P ops Q l C' a := by
  induction l with
  | nil => intro C C' a h hw w hc; exact hw w (h w hc)
  | cons x rest ih =>
    intro C C' a h hw
    obtain ⟨o, lab⟩ := x
    unfold wpF at hw ⊢
    split
    · rename_i hwant
      rw [if_pos hwant] at hw
      match lab with
      | 0 => obtain ⟨v, h1, h2⟩ := hw; exact ⟨v, h1, ih h h2⟩
      | 1 => obtain ⟨v, h1, h2⟩ := hw; exact ⟨v, fun w hc => h1 w (h w hc), ih h h2⟩
      | 2 => obtain ⟨β, val, R, hi, h0, h1, h2⟩ := hw; exact ⟨β, val, R, hi, h0, fun w hc => h1 w (h w hc), fun v => ih (fun w hc => ⟨h w hc.1, hc.2⟩) (h2 v)⟩
      | k + 3 => obtain ⟨β, val, R, hi, h0, h1, h2⟩ := hw; exact ⟨β, val, R, hi, h0, fun w hc => h1 w (h w hc), h2⟩
    · rename_i hwant
      rw [if_neg hwant] at hw
      exact ih h hw

/-- What stands at the head stays; what follows may be put in another way. -/
theorem wpF_tail {x : Oper × Nat} {l l' : List (Oper × Nat)} {C : World → Prop} {a : Act} (hl : ∀ C a, wpF P ops Q l C a → wpF P ops Q l' C a)
    (h : wpF P ops Q (x :: l) C a) : wpF P ops Q (x :: l') C a := by
  obtain ⟨o, lab⟩ := x
  unfold wpF at h ⊢
  split
  · rename_i hwant
    rw [if_pos hwant] at h
    match lab with
    | 0 => obtain ⟨v, h1, h2⟩ := h; exact ⟨v, h1, hl _ _ h2⟩
    | 1 => obtain ⟨v, h1, h2⟩ := h; exact ⟨v, h1, hl _ _ h2⟩
    | 2 => obtain ⟨β, val, R, hi, h0, h1, h2⟩ := h; exact ⟨β, val, R, hi, h0, h1, fun v => hl _ _ (h2 v)⟩
    | k + 3 => obtain ⟨β, val, R, hi, h0, h1, h2⟩ := h; exact ⟨β, val, R, hi, h0, h1, fun v => hl _ _ (h2 v)⟩
  · rename_i hwant
    rw [if_neg hwant] at h
    exact hl _ _ h

theorem stepAt_put {o : Oper} {a : Act} {d : Option Tmp} {v : Value} (hs : ∀ cs b, o.op ≠ .select cs b) (h : ∀ t, d = some t → t ∉ o.looksAt ops) (w : World) (R : Value → World → Prop) :
    stepAt P o (a.put d v) w R = stepAt P o a w R := by
  unfold stepAt; rw [execOp_put (ops := ops) o hs a d v h]

def mayPass (ly lx : Nat) : Bool := ly == 0 || lx == 0 || (ly == 1 && decide (lx ≤ 2))

/-- Two neighbours change places. -/
theorem wpF_swap {oy ox : Oper} {ly lx : Nat} {rest : List (Oper × Nat)} {C : World → Prop} {a : Act} (hp : mayPass ly lx = true) (hap : ox.apart ops oy = true)
    (hsy : ∀ cs b, oy.op ≠ .select cs b) (hsx : ∀ cs b, ox.op ≠ .select cs b)
    (h : wpF P ops Q ((oy, ly) :: (ox, lx) :: rest) C a) : wpF P ops Q ((ox, lx) :: (oy, ly) :: rest) C a := by
  obtain ⟨p1, p2, p3⟩ := Oper.apart_spec hap
  have ex : ∀ v, execOp (a.put oy.dst v).eval ox = execOp a.eval ox := fun v => execOp_put (ops := ops) ox hsx a oy.dst v p3
  have ey : ∀ v, execOp (a.put ox.dst v).eval oy = execOp a.eval oy := fun v => execOp_put (ops := ops) oy hsy a ox.dst v p1
  have wx : ∀ v, Region.wanted ox (yielded ops (a.put oy.dst v).tmps) = Region.wanted ox (yielded ops a.tmps) := fun v => wanted_put ox a oy.dst v p3
  have wy : ∀ v, Region.wanted oy (yielded ops (a.put ox.dst v).tmps) = Region.wanted oy (yielded ops a.tmps) := fun v => wanted_put oy a ox.dst v p1
  have sx : ∀ v w R, stepAt P ox (a.put oy.dst v) w R = stepAt P ox a w R := fun v w R => stepAt_put (ops := ops) hsx p3 w R
  have sy : ∀ v w R, stepAt P oy (a.put ox.dst v) w R = stepAt P oy a w R := fun v w R => stepAt_put (ops := ops) hsy p1 w R
  have cm : ∀ u v, (a.put oy.dst u).put ox.dst v = (a.put ox.dst v).put oy.dst u := fun u v => (Act.put_comm a v u p2).symm
  unfold wpF at h
  by_cases hwy : Region.wanted oy (yielded ops a.tmps) = true
  · rw [if_pos hwy] at h
    by_cases hwx : Region.wanted ox (yielded ops a.tmps) = true
    · -- both are wanted
      match ly, lx with
      | 0, 0 =>
        obtain ⟨v, h1, h2⟩ := h
        unfold wpF at h2; rw [if_pos (by rw [wx]; exact hwx)] at h2
        obtain ⟨u, h3, h4⟩ := h2
        unfold wpF; rw [if_pos hwx]
        refine ⟨u, fun w => by rw [← ex v]; exact h3 w, ?_⟩
        unfold wpF; rw [if_pos (by rw [wy]; exact hwy)]
        exact ⟨v, fun w => by rw [ey]; exact h1 w, by rw [← cm]; exact h4⟩
      | 0, 1 =>
        obtain ⟨v, h1, h2⟩ := h
        unfold wpF at h2; rw [if_pos (by rw [wx]; exact hwx)] at h2
        obtain ⟨u, h3, h4⟩ := h2
        unfold wpF; rw [if_pos hwx]
        refine ⟨u, fun w hc => by rw [← sx v]; exact h3 w hc, ?_⟩
        unfold wpF; rw [if_pos (by rw [wy]; exact hwy)]
        exact ⟨v, fun w => by rw [ey]; exact h1 w, by rw [← cm]; exact h4⟩
      | 0, 2 =>
        obtain ⟨v, h1, h2⟩ := h
        unfold wpF at h2; rw [if_pos (by rw [wx]; exact hwx)] at h2
        obtain ⟨β, val, R, hi, h0, h3, h4⟩ := h2
        unfold wpF; rw [if_pos hwx]
        refine ⟨β, val, R, hi, h0, fun w hc => by rw [← sx v]; exact h3 w hc, fun u => ?_⟩
        unfold wpF; rw [if_pos (by rw [wy]; exact hwy)]
        exact ⟨v, fun w => by rw [ey]; exact h1 w, by rw [← cm]; exact h4 u⟩
      | 0, k + 3 =>
        obtain ⟨v, h1, h2⟩ := h
        unfold wpF at h2; rw [if_pos (by rw [wx]; exact hwx)] at h2
        obtain ⟨β, val, R, hi, h0, h3, h4⟩ := h2
        unfold wpF; rw [if_pos hwx]
        refine ⟨β, val, R, hi, h0, fun w hc => by rw [← sx v]; exact h3 w hc, fun u => ?_⟩
        unfold wpF; rw [if_pos (by rw [wy]; exact hwy)]
        exact ⟨v, fun w => by rw [ey]; exact h1 w, by rw [← cm]; exact h4 u⟩
      | 1, 0 =>
        obtain ⟨v, h1, h2⟩ := h
        unfold wpF at h2; rw [if_pos (by rw [wx]; exact hwx)] at h2
        obtain ⟨u, h3, h4⟩ := h2
        unfold wpF; rw [if_pos hwx]
        refine ⟨u, fun w => by rw [← ex v]; exact h3 w, ?_⟩
        unfold wpF; rw [if_pos (by rw [wy]; exact hwy)]
        exact ⟨v, fun w hc => by rw [sy]; exact h1 w hc, by rw [← cm]; exact h4⟩
      | 1, 1 =>
        obtain ⟨v, h1, h2⟩ := h
        unfold wpF at h2; rw [if_pos (by rw [wx]; exact hwx)] at h2
        obtain ⟨u, h3, h4⟩ := h2
        unfold wpF; rw [if_pos hwx]
        refine ⟨u, fun w hc => by rw [← sx v]; exact h3 w hc, ?_⟩
        unfold wpF; rw [if_pos (by rw [wy]; exact hwy)]
        exact ⟨v, fun w hc => by rw [sy]; exact h1 w hc, by rw [← cm]; exact h4⟩
      | 1, 2 =>
        obtain ⟨v, h1, h2⟩ := h
        unfold wpF at h2; rw [if_pos (by rw [wx]; exact hwx)] at h2
        obtain ⟨β, val, R, hi, h0, h3, h4⟩ := h2
        unfold wpF; rw [if_pos hwx]
        refine ⟨β, val, R, hi, h0, fun w hc => by rw [← sx v]; exact h3 w hc, fun u => ?_⟩
        unfold wpF; rw [if_pos (by rw [wy]; exact hwy)]
        exact ⟨v, fun w hc => by rw [sy]; exact h1 w hc.1, by rw [← cm]; exact h4 u⟩
      | 1, k + 3 => simp [mayPass] at hp
      | 2, 0 =>
        obtain ⟨β, val, R, hi, h0, h1, h2⟩ := h
        obtain ⟨b0⟩ := hi
        have h3 := h2 b0
        unfold wpF at h3; rw [if_pos (by rw [wx]; exact hwx)] at h3
        obtain ⟨u, h4, _⟩ := h3
        unfold wpF; rw [if_pos hwx]
        refine ⟨u, fun w => by rw [← ex (val b0)]; exact h4 w, ?_⟩
        unfold wpF; rw [if_pos (by rw [wy]; exact hwy)]
        refine ⟨β, val, R, ⟨b0⟩, h0, fun w hc => by rw [sy]; exact h1 w hc, fun v => ?_⟩
        have h5 := h2 v
        unfold wpF at h5; rw [if_pos (by rw [wx]; exact hwx)] at h5
        obtain ⟨u', h6, h7⟩ := h5
        have e : u' = u := by
          have a1 := h4 default; have a2 := h6 default
          rw [ex] at a1 a2; rw [a1] at a2; injection a2 with a2; injection a2 with a2; exact a2.symm
        rw [← cm, ← e]; exact h7
      | k + 3, 0 =>
        obtain ⟨β, val, R, hi, h0, h1, h2⟩ := h
        obtain ⟨b0⟩ := hi
        have h3 := h2 b0
        unfold wpF at h3; rw [if_pos (by rw [wx]; exact hwx)] at h3
        obtain ⟨u, h4, _⟩ := h3
        unfold wpF; rw [if_pos hwx]
        refine ⟨u, fun w => by rw [← ex (val b0)]; exact h4 w, ?_⟩
        unfold wpF; rw [if_pos (by rw [wy]; exact hwy)]
        refine ⟨β, val, R, ⟨b0⟩, h0, fun w hc => by rw [sy]; exact h1 w hc, fun v => ?_⟩
        have h5 := h2 v
        unfold wpF at h5; rw [if_pos (by rw [wx]; exact hwx)] at h5
        obtain ⟨u', h6, h7⟩ := h5
        have e : u' = u := by
          have a1 := h4 default; have a2 := h6 default
          rw [ex] at a1 a2; rw [a1] at a2; injection a2 with a2; injection a2 with a2; exact a2.symm
        rw [← cm, ← e]; exact h7
      | 2, k + 1 => simp [mayPass] at hp
      | j + 3, k + 1 => simp [mayPass] at hp
    · -- x is passed over
      have sk : ∀ (C : World → Prop) (v : Value), wpF P ops Q ((ox, lx) :: rest) C (a.put oy.dst v) → wpF P ops Q rest C ((a.put ox.dst undef).put oy.dst v) := fun C v hh => by
        unfold wpF at hh; rw [if_neg (by rw [wx]; exact hwx)] at hh; rw [← cm]; exact hh
      unfold wpF; rw [if_neg hwx]
      unfold wpF; rw [if_pos (by rw [wy]; exact hwy)]
      match ly with
      | 0 => obtain ⟨v, h1, h2⟩ := h; exact ⟨v, fun w => by rw [ey]; exact h1 w, sk _ _ h2⟩
      | 1 => obtain ⟨v, h1, h2⟩ := h; exact ⟨v, fun w hc => by rw [sy]; exact h1 w hc, sk _ _ h2⟩
      | 2 => obtain ⟨β, val, R, hi, h0, h1, h2⟩ := h; exact ⟨β, val, R, hi, h0, fun w hc => by rw [sy]; exact h1 w hc, fun v => sk _ _ (h2 v)⟩
      | k + 3 => obtain ⟨β, val, R, hi, h0, h1, h2⟩ := h; exact ⟨β, val, R, hi, h0, fun w hc => by rw [sy]; exact h1 w hc, fun v => sk _ _ (h2 v)⟩
  · -- y is passed over
    rw [if_neg hwy] at h
    have sk : ∀ (C : World → Prop) (v : Value), wpF P ops Q rest C ((a.put oy.dst undef).put ox.dst v) → wpF P ops Q ((oy, ly) :: rest) C (a.put ox.dst v) := fun C v hh => by
      unfold wpF; rw [if_neg (by rw [wy]; exact hwy)]; rw [← cm]; exact hh
    unfold wpF at h
    by_cases hwx : Region.wanted ox (yielded ops a.tmps) = true
    · rw [if_pos (by rw [wx]; exact hwx)] at h
      unfold wpF; rw [if_pos hwx]
      match lx with
      | 0 => obtain ⟨v, h1, h2⟩ := h; exact ⟨v, fun w => by rw [← ex undef]; exact h1 w, sk _ _ h2⟩
      | 1 => obtain ⟨v, h1, h2⟩ := h; exact ⟨v, fun w hc => by rw [← sx undef]; exact h1 w hc, sk _ _ h2⟩
      | 2 => obtain ⟨β, val, R, hi, h0, h1, h2⟩ := h; exact ⟨β, val, R, hi, h0, fun w hc => by rw [← sx undef]; exact h1 w hc, fun v => sk _ _ (h2 v)⟩
      | k + 3 => obtain ⟨β, val, R, hi, h0, h1, h2⟩ := h; exact ⟨β, val, R, hi, h0, fun w hc => by rw [← sx undef]; exact h1 w hc, fun v => sk _ _ (h2 v)⟩
    · rw [if_neg (by rw [wx]; exact hwx)] at h
      unfold wpF; rw [if_neg hwx]
      exact sk _ _ h

/-- One that all ahead of it let pass is pulled to the head. -/
theorem wpF_pull {x : Oper × Nat} {post : List (Oper × Nat)} (hsx : ∀ cs b, x.1.op ≠ .select cs b) : ∀ (pre : List (Oper × Nat)),
    (∀ y ∈ pre, mayPass y.2 x.2 = true ∧ x.1.apart ops y.1 = true ∧ ∀ cs b, y.1.op ≠ .select cs b) →
    ∀ (C : World → Prop) (a : Act), wpF P ops Q (pre ++ x :: post) C a → wpF P ops Q (x :: (pre ++ post)) C a
  | [], _, _, _, h => h
  | y :: pre, hy, C, a, h => by
    obtain ⟨m1, m2, m3⟩ := hy y (by simp)
    have h1 := wpF_tail (x := y) (fun C a => wpF_pull hsx pre (fun z hz => hy z (by simp [hz])) C a) h
    exact wpF_swap m1 m2 m3 hsx h1
end

/-! ### which must come ahead of which -/
def maskOf (acc : Array Nat) (o : Oper) : Nat := o.after.toList.foldl (fun s e => if Region.binds .any e then s ||| 2 ^ e.on ||| acc.getD e.on 0 else s) 0
def ancAll : List Oper → Array Nat → Array Nat
  | [], acc => acc
  | o :: r, acc => ancAll r (acc.push (maskOf acc o))

theorem foldl_bit (acc : Array Nat) (k : Nat) : ∀ (l : List Edge) (s : Nat),
    (l.foldl (fun s e => if Region.binds .any e then s ||| 2 ^ e.on ||| acc.getD e.on 0 else s) s).testBit k = true →
    s.testBit k = true ∨ ∃ e ∈ l, Region.binds .any e = true ∧ (e.on = k ∨ (acc.getD e.on 0).testBit k = true)
  | [], s, h => .inl h
  | e :: l, s, h => by
    rw [List.foldl_cons] at h
    rcases foldl_bit acc k l _ h with h1 | ⟨e', he', h2⟩
    · split at h1
      · rename_i hb
        simp only [Nat.testBit_or, Bool.or_eq_true, Nat.testBit_two_pow, decide_eq_true_eq] at h1
        rcases h1 with (h1 | h1) | h1
        · exact .inl h1
        · exact .inr ⟨e, by simp, hb, .inl h1⟩
        · exact .inr ⟨e, by simp, hb, .inr h1⟩
      · exact .inl h1
    · exact .inr ⟨e', by simp [he'], h2⟩

theorem maskOf_bit {acc : Array Nat} {o : Oper} {k : Nat} (h : (maskOf acc o).testBit k = true) :
    ∃ e ∈ o.after, Region.binds .any e = true ∧ (e.on = k ∨ (acc.getD e.on 0).testBit k = true) := by
  rcases foldl_bit acc k _ _ h with h | ⟨e, he, h⟩
  · simp at h
  · exact ⟨e, by simpa using he, h⟩

/-- All that o waits for has come up. -/
def predsIn (listed : Array Bool) (o : Oper) : Prop := ∀ e ∈ o.after, Region.binds .any e = true → listed.getD e.on false = true
def ClosedL (ops : Array Oper) (listed : Array Bool) : Prop := ∀ i o, ops[i]? = some o → listed.getD i false = true → predsIn listed o
def Anc (ops : Array Oper) (i k : Nat) : Prop := ∀ listed o, ClosedL ops listed → ops[i]? = some o → predsIn listed o → listed.getD k false = true

theorem ancAll_good (ops : Array Oper) : ∀ (l : List Oper) (acc : Array Nat), (∀ j, l[j]? = ops[acc.size + j]?) →
    (∀ i k, (acc.getD i 0).testBit k = true → Anc ops i k) → ∀ i k, ((ancAll l acc).getD i 0).testBit k = true → Anc ops i k
  | [], acc, _, h => h
  | o :: l, acc, hl, h => by
    refine ancAll_good ops l _ (fun j => ?_) (fun i k hb => ?_)
    · have := hl (j + 1)
      simp only [List.getElem?_cons_succ, Array.size_push] at this ⊢
      rw [this]; congr 1; omega
    · by_cases hi : i = acc.size
      · subst hi
        simp only [Array.getD_eq_getD_getElem?, Array.getElem?_push_size, Option.getD_some] at hb
        obtain ⟨e, he, hbind, hor⟩ := maskOf_bit hb
        intro listed o' hc ho' hp
        have ho : o' = o := by
          have := hl 0
          simp only [List.getElem?_cons_zero, Nat.add_zero] at this
          rw [ho'] at this; injection this with this; exact this.symm
        subst ho
        have h1 := hp e he hbind
        rcases hor with rfl | hor
        · exact h1
        · have hlt : e.on < acc.size := by
            rcases Nat.lt_or_ge e.on acc.size with hlt | hge
            · exact hlt
            · rw [Array.getD_eq_getD_getElem?, Array.getElem?_eq_none hge] at hor; simp at hor
          have hex : ∃ oe, ops[e.on]? = some oe := by
            rcases Nat.lt_or_ge e.on ops.size with hlt' | hge
            · exact ⟨_, Array.getElem?_eq_getElem hlt'⟩
            · have h3 := (Array.getElem?_eq_some_iff.1 ho').1
              omega
          obtain ⟨oe, hoe⟩ := hex
          exact h e.on k hor listed oe hc hoe (hc e.on oe hoe h1)
      · have : (acc.push (maskOf acc o)).getD i 0 = acc.getD i 0 := by
          simp only [Array.getD_eq_getD_getElem?, Array.getElem?_push, if_neg hi]
        rw [this] at hb
        exact h i k hb

theorem anc_of_bit {ops : Array Oper} {i k : Nat} (h : ((ancAll ops.toList #[]).getD i 0).testBit k = true) : Anc ops i k :=
  ancAll_good ops ops.toList #[] (fun j => by simp) (fun i k hb => by simp at hb) i k h

/-! ### the plan -/
def pairOk (ops : Array Oper) (anc : Array Nat) (y x : Nat × Nat) : Bool :=
  (anc.getD x.1 0).testBit y.1 || (mayPass y.2 x.2 && (ops.getD x.1 default).apart ops (ops.getD y.1 default))
def listOk (ops : Array Oper) (anc : Array Nat) : List (Nat × Nat) → Bool
  | [] => true
  | y :: l => l.all (pairOk ops anc y) && listOk ops anc l
def nodupB : List Nat → Bool
  | [] => true
  | x :: l => !l.contains x && nodupB l
def backB (ops : Array Oper) : Bool := (List.range ops.size).all fun i => (ops.getD i default).after.all fun e => !Region.binds .any e || decide (e.on < i)
def planOk (ops : Array Oper) (plan : List (Nat × Nat)) : Bool :=
  Region.noSelect ops && backB ops && decide (plan.length = ops.size) && (plan.all fun p => decide (p.1 < ops.size)) && ((List.range ops.size).all fun i => (plan.map (·.1)).contains i) && nodupB (plan.map (·.1)) && listOk ops (ancAll ops.toList #[]) plan
def pick (ops : Array Oper) (plan : List (Nat × Nat)) : List (Oper × Nat) := plan.map fun p => (ops.getD p.1 default, p.2)
structure wpP (P : Program) (ops : Array Oper) (Q : Act → World → Prop) (plan : List (Nat × Nat)) (C : World → Prop) (a : Act) : Prop where
  of ::
  out : wpF P ops Q (pick ops plan) C a

theorem nodupB_spec : ∀ {l : List Nat}, nodupB l = true → l.Nodup
  | [], _ => List.nodup_nil
  | x :: l, h => by
    simp only [nodupB, Bool.and_eq_true, Bool.not_eq_true', List.contains_eq_mem, decide_eq_false_iff_not] at h
    exact List.nodup_cons.2 ⟨h.1, nodupB_spec h.2⟩

theorem listOk_mid {ops : Array Oper} {anc : Array Nat} {x : Nat × Nat} {post : List (Nat × Nat)} : ∀ {pre : List (Nat × Nat)}, listOk ops anc (pre ++ x :: post) = true →
    (∀ y ∈ pre, pairOk ops anc y x = true) ∧ listOk ops anc (pre ++ post) = true
  | [], h => by
    simp only [List.nil_append, listOk, Bool.and_eq_true] at h
    exact ⟨fun y hy => by simp at hy, h.2⟩
  | y :: pre, h => by
    simp only [List.cons_append, listOk, Bool.and_eq_true, List.all_eq_true] at h ⊢
    obtain ⟨h1, h2⟩ := listOk_mid h.2
    refine ⟨fun z hz => ?_, fun z hz => h.1 z ?_, h2⟩
    · rcases List.mem_cons.1 hz with rfl | hz
      · exact h.1 x (by simp)
      · exact h1 z hz
    · rcases List.mem_append.1 hz with hz | hz
      · simp [hz]
      · simp [hz]

section
variable {F : Fence} {n : Nat} {P : Program} {ops : Array Oper} {Q : Exit → Act → World → Prop}

theorem stepAt_in (hF : WideF F) {o : Oper} {a : Act} {w : World} {R : Value → World → Prop} {K : Act → World → Prop} (hd : ∀ c, o.op ≠ .defer c)
    (h : stepAt P o a w R) (hk : ∀ v w', R v w' → K (a.put o.dst v) w') : o.wpIn F n P a w K Q := by
  refine ⟨fun f _ => hF.fn f, ?_⟩
  rw [Oper.semAt_plain F _ _ hd]
  unfold stepAt at h
  generalize (execOp a.eval o).run P w = r at *
  cases r with
  | ok x w' =>
    cases x <;> simp only at h
    case value v => exact hk _ _ h
    case skip => exact hk _ _ h
    case enter f args =>
      refine ⟨fun hs => (by rw [hF.depth] at hs; cases hs), (hF.calls h).mono fun e w'' ⟨v, he, hv⟩ => ?_⟩
      subst he
      exact hk _ _ hv
  | halt x w' => exact h.elim

def noDefer (ops : Array Oper) : Bool := ops.all fun o => match o.op with | .defer _ => false | _ => true

theorem wpAny_of_plan (hF : WideF F) (hsel : Region.noSelect ops = true) (hdef : noDefer ops = true) (hback : backB ops = true) : ∀ (fuel : Nat) (listed : Array Bool) (a : Act) (w : World) (l : List (Nat × Nat)) (C : World → Prop),
    l.length = fuel → listed.size = ops.size → (∀ i, i ∈ l.map (·.1) ↔ (i < ops.size ∧ listed.getD i false = false)) → (l.map (·.1)).Nodup →
    listOk ops (ancAll ops.toList #[]) l = true → ClosedL ops listed → StableF C → C w → wpP P ops (Q .normal) l C a → wpAnyIn F n P .any ops Q fuel listed a w := by
  intro fuel
  induction fuel with
  | zero =>
    intro listed a w l C hlen hsz hmem _ _ _ _ hC h
    have hl : l = [] := List.eq_nil_of_length_eq_zero hlen
    subst hl
    refine ⟨?_, h.out w hC⟩
    refine List.eq_nil_iff_forall_not_mem.2 fun i hi => ?_
    obtain ⟨h1, o, ho, _⟩ := mem_ready.1 hi
    have hlt := (Array.getElem?_eq_some_iff.1 ho).1
    have := (hmem i).2 ⟨hlt, by
      rw [Array.getD_eq_getD_getElem?, Array.getElem?_eq_getElem (by omega)] at h1 ⊢
      simpa using h1⟩
    simp at this
  | succ fuel ih =>
    intro listed a w l C hlen hsz hmem hnd hok hcl hst hC h
    refine ⟨fun hr => ?_, fun i hi => ?_⟩
    · -- something is always ready
      exfalso
      have hex : ∃ i, i < ops.size ∧ listed.getD i false = false := by
        cases l with
        | nil => simp at hlen
        | cons x l => exact ⟨x.1, (hmem x.1).1 (by simp)⟩
      have hmin : ∃ i, (i < ops.size ∧ listed.getD i false = false) ∧ ∀ j, j < i → ¬ (j < ops.size ∧ listed.getD j false = false) := by
        obtain ⟨i, hi⟩ := hex
        induction i using Nat.strongRecOn with
        | _ i ih2 =>
          by_cases hj : ∃ j, j < i ∧ (j < ops.size ∧ listed.getD j false = false)
          · obtain ⟨j, hji, hj⟩ := hj; exact ih2 j hji hj
          · exact ⟨i, hi, fun j hji hh => hj ⟨j, hji, hh⟩⟩
      obtain ⟨i, ⟨hi, hil⟩, hmin⟩ := hmin
      have : i ∈ Region.ready .any ops listed := by
        refine mem_ready.2 ⟨?_, ops[i], Array.getElem?_eq_getElem hi, fun e he hb => ?_⟩
        · rw [Array.getD_eq_getD_getElem?, Array.getElem?_eq_getElem (by omega)] at hil ⊢
          simpa using hil
        · have h1 := List.all_eq_true.1 hback i (by simpa using hi)
          rw [Array.getD_eq_getD_getElem?, Array.getElem?_eq_getElem hi, Option.getD_some] at h1
          have h2 := Array.all_eq_true_iff_forall_mem.1 h1 e he
          simp only [hb, Bool.not_true, Bool.false_or, decide_eq_true_eq] at h2
          have h3 := hmin e.on h2
          cases hh : listed.getD e.on false
          · exact absurd ⟨by omega, hh⟩ h3
          · rfl
      rw [hr] at this
      simp at this
    · obtain ⟨h1, o, ho, hpr⟩ := mem_ready.1 hi
      have hlt := (Array.getElem?_eq_some_iff.1 ho).1
      have hun : listed.getD i false = false := by
        rw [Array.getD_eq_getD_getElem?, Array.getElem?_eq_getElem (by omega)] at h1 ⊢
        simpa using h1
      have hin := (hmem i).2 ⟨hlt, hun⟩
      obtain ⟨⟨i', lab⟩, hx, rfl⟩ := List.mem_map.1 hin
      obtain ⟨pre, post, rfl⟩ := List.append_of_mem hx
      obtain ⟨hpair, hok'⟩ := listOk_mid hok
      have hoD : ops.getD i' default = o := by rw [Array.getD_eq_getD_getElem?, ho]; rfl
      have hselo : ∀ (j : Nat) cs b, (ops.getD j default).op ≠ .select cs b := fun j cs b => by
        rcases Nat.lt_or_ge j ops.size with hj | hj
        · rw [Array.getD_eq_getD_getElem?, Array.getElem?_eq_getElem hj]
          exact Region.noSelect_spec hsel j _ cs b (Array.getElem?_eq_getElem hj)
        · rw [Array.getD_eq_getD_getElem?, Array.getElem?_eq_none hj]
          intro hh; cases hh
      have hpull : wpF P ops (Q .normal) ((o, lab) :: pick ops (pre ++ post)) C a := by
        have h2 : wpF P ops (Q .normal) (pick ops pre ++ (o, lab) :: pick ops post) C a := by
          have h2 := h.out
          unfold pick at h2
          rw [List.map_append, List.map_cons] at h2
          simp only [hoD] at h2
          exact h2
        have h3 := wpF_pull (x := (o, lab)) (fun cs b => by rw [← hoD]; exact hselo i' cs b) (pick ops pre) (fun y hy => by
          obtain ⟨p, hp, rfl⟩ := List.mem_map.1 hy
          have h4 := hpair p hp
          simp only [pairOk, Bool.or_eq_true, Bool.and_eq_true] at h4
          rcases h4 with h4 | h4
          · exfalso
            have h5 := anc_of_bit h4 listed o hcl ho hpr
            have h6 := (hmem p.1).1 (List.mem_map.2 ⟨p, by simp [hp], rfl⟩)
            rw [h5] at h6
            cases h6.2
          · exact ⟨h4.1, by rw [hoD] at h4; exact h4.2, fun cs b => hselo p.1 cs b⟩) C a h2
        rw [show pick ops (pre ++ post) = pick ops pre ++ pick ops post from List.map_append]
        exact h3
      have hnext : ∀ (C' : World → Prop) (v : Value) (w' : World), StableF C' → C' w' → wpF P ops (Q .normal) (pick ops (pre ++ post)) C' (a.put o.dst v) →
          wpAnyIn F n P .any ops Q fuel (listed.setIfInBounds i' true) (a.put o.dst v) w' := fun C' v w' hst' hC' hh => by
        refine ih _ _ w' (pre ++ post) C' (by simp at hlen ⊢; omega) (by simpa using hsz) (fun j => ?_) ?_ hok' (fun j oj hj hlj => ?_) hst' hC' ⟨hh⟩
        · rw [List.map_append, List.map_cons] at hnd
          have hnin : i' ∉ pre.map (·.1) ++ post.map (·.1) := by
            have := (List.perm_middle (a := i') (l₁ := pre.map (·.1)) (l₂ := post.map (·.1))).nodup_iff.1 hnd
            exact (List.nodup_cons.1 this).1
          by_cases hji : j = i'
          · subst hji
            rw [List.map_append]
            constructor
            · intro hh; exact absurd hh hnin
            · rintro ⟨_, hh⟩
              rw [Array.getD_eq_getD_getElem?, Array.getElem?_setIfInBounds_self_of_lt (by omega)] at hh
              cases hh
          · have h5 := hmem j
            rw [getD_set_ne false (Ne.symm hji)]
            rw [← h5]
            simp only [List.map_append, List.map_cons, List.mem_append, List.mem_cons]
            constructor
            · rintro (hh | hh)
              · exact .inl hh
              · exact .inr (.inr hh)
            · rintro (hh | hh | hh)
              · exact .inl hh
              · exact absurd hh hji
              · exact .inr hh
        · rw [List.map_append, List.map_cons] at hnd
          rw [List.map_append]
          have := (List.perm_middle (a := i') (l₁ := pre.map (·.1)) (l₂ := post.map (·.1))).nodup_iff.1 hnd
          exact (List.nodup_cons.1 this).2
        · intro e he hb
          by_cases hji : j = i'
          · subst hji
            have : oj = o := by rw [ho] at hj; injection hj with hj; exact hj.symm
            subst this
            exact getD_set_true (hpr e he hb)
          · rw [getD_set_ne false (Ne.symm hji)] at hlj
            exact getD_set_true (hcl j oj hj hlj e he hb)
      unfold wpOpIn
      simp only [ho]
      have hdo : ∀ c, o.op ≠ .defer c := fun c hc => by
        have h7 := Array.all_eq_true_iff_forall_mem.1 hdef o (Array.mem_of_getElem? ho)
        rw [hc] at h7; cases h7
      unfold wpF at hpull
      by_cases hw : Region.wanted o (yielded ops a.tmps) = true
      · rw [if_pos hw] at hpull ⊢
        match lab with
        | 0 =>
          obtain ⟨v, h2, h3⟩ := hpull
          refine stepAt_in hF hdo (R := fun u w' => u = v ∧ w' = w) ?_ ?_
          · unfold stepAt; rw [h2 w]; exact ⟨rfl, rfl⟩
          · rintro u w' ⟨rfl, rfl⟩; exact hnext C _ _ hst hC h3
        | 1 =>
          obtain ⟨v, h2, h3⟩ := hpull
          refine stepAt_in hF hdo (h2 w hC) ?_
          rintro u w' ⟨rfl, hext⟩; exact hnext C _ _ hst (hst _ _ hC hext) h3
        | 2 =>
          obtain ⟨β, val, R, hi, h0, h2, h3⟩ := hpull
          refine stepAt_in hF hdo (h2 w hC) ?_
          rintro u' w' ⟨u, rfl, hext, hR⟩
          exact hnext (fun w => C w ∧ R u w) _ _ (fun x y hxy he => ⟨hst _ _ hxy.1 he, h0 u _ _ hxy.2 he⟩) ⟨hst _ _ hC hext, hR⟩ (h3 u)
        | k + 3 =>
          obtain ⟨β, val, R, hi, h0, h2, h3⟩ := hpull
          refine stepAt_in hF hdo (h2 w hC) ?_
          rintro u' w' ⟨u, rfl, hR⟩
          exact hnext (R u) _ _ (h0 u) hR (h3 u)
      · rw [if_neg hw] at hpull ⊢
        exact ⟨fun f _ => hF.fn f, hnext C _ _ hst hC hpull⟩

theorem wpIn_region_plan (hF : WideF F) {id : Nat} {a : Act} {w : World} (plan : List (Nat × Nat)) (hm : P.follows .mixedOrders = true) (hB : planOk ops plan = true) (hD : noDefer ops = true) (C : World → Prop) (hst : StableF C)
    (hC : C { w with drawn := w.drawn + 1 }) (h : wpP P ops (Q .normal) plan C a) : (Code.region id ops true).wpIn F n P Q a w := by
  simp only [planOk, Bool.and_eq_true, decide_eq_true_eq, List.all_eq_true] at hB
  obtain ⟨⟨⟨⟨⟨⟨h1, h2⟩, h3⟩, h4⟩, h7⟩, h5⟩, h6⟩ := hB
  have hnd := nodupB_spec h5
  refine wpIn_region_any hm (wpAny_of_plan hF h1 hD h2 ops.size _ a _ plan C h3 (by simp) (fun i => ?_) hnd h6 (fun i o _ hl => ?_) hst hC h)
  · constructor
    · intro hi
      obtain ⟨p, hp, rfl⟩ := List.mem_map.1 hi
      have := h4 p hp
      refine ⟨this, ?_⟩
      rw [Array.getD_eq_getD_getElem?, Array.getElem?_replicate, if_pos this]; rfl
    · rintro ⟨hi, _⟩
      simpa using h7 i (by simpa using hi)
  · exfalso
    rw [Array.getD_eq_getD_getElem?, Array.getElem?_replicate] at hl
    split at hl <;> cases hl

theorem wp_region_plan {id : Nat} {a : Act} {w : World} (plan : List (Nat × Nat)) (hm : P.follows .mixedOrders = true) (hB : planOk ops plan = true) (hD : noDefer ops = true) (C : World → Prop) (hst : StableF C)
    (hC : C { w with drawn := w.drawn + 1 }) (h : wpP P ops (Q .normal) plan C a) : (Code.region id ops true).wp P Q a w :=
  (wpIn_wide (n := 0)).1 (wpIn_region_plan wideF_wide plan hm hB hD C hst hC h)
end
end Go.Proofs.Ytokljdkeegdniaa
