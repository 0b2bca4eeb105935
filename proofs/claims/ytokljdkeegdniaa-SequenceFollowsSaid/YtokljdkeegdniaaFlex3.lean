/-
  A drawn region walked once, by classes of worlds: a look keeps the world, a step of label 2 keeps the class (whatever it writes), one of label 3 changes it.
-/
import Derived.Test.YtokljdkeegdniaaSteps2
namespace Go.Proofs.Ytokljdkeegdniaa
open Go.RowKit

def wpE (G : World → Prop) (P : Program) (ops : Array Oper) (Q : Act → World → Prop) : List (Oper × Nat) → (World → Prop) → Act → Prop
  | [], C, a => ∀ w, C w → Q a w
  | (o, lab) :: rest, C, a =>
    if Region.wanted o (yielded ops a.tmps) then
      match lab with
      | 0 => ∃ v, (∀ w, (execOp a.eval o).run P w = .ok (.value v) w) ∧ wpE G P ops Q rest C (a.put o.dst v)
      | 1 => ∃ v, (∀ w, C w → stepAt P o a w (fun u w' => u = v ∧ w' = w)) ∧ wpE G P ops Q rest C (a.put o.dst v)
      | 2 => ∃ (β : Type) (val : β → Value) (R : β → World → Prop), Nonempty β ∧ (∀ w, C w → stepAt P o a w (fun u w' => ∃ b, u = val b ∧ C w' ∧ R b w')) ∧ ∀ v, wpE G P ops Q rest (fun w => C w ∧ R v w) (a.put o.dst (val v))
      | 3 => ∃ v, (∀ w, G w → stepAt P o a w (fun u w' => u = v ∧ w' = w)) ∧ wpE G P ops Q rest C (a.put o.dst v)
      | _ => ∃ (β : Type) (val : β → Value) (R : β → World → Prop), Nonempty β ∧ (∀ b w, R b w → G w) ∧ (∀ w, C w → stepAt P o a w (fun u w' => ∃ b, u = val b ∧ R b w')) ∧ ∀ v, wpE G P ops Q rest (R v) (a.put o.dst (val v))
    else wpE G P ops Q rest C (a.put o.dst undef)

section
variable {G : World → Prop} {P : Program} {ops : Array Oper} {Q : Act → World → Prop}

/-- What stands at the head stays; what follows may be put in another way. -/
theorem wpE_tail {x : Oper × Nat} {l l' : List (Oper × Nat)} {C : World → Prop} {a : Act} (hl : ∀ C a, wpE G P ops Q l C a → wpE G P ops Q l' C a)
    (h : wpE G P ops Q (x :: l) C a) : wpE G P ops Q (x :: l') C a := by
  obtain ⟨o, lab⟩ := x
  unfold wpE at h ⊢
  split
  · rename_i hwant
    rw [if_pos hwant] at h
    match lab with
    | 0 => obtain ⟨v, h1, h2⟩ := h; exact ⟨v, h1, hl _ _ h2⟩
    | 1 => obtain ⟨v, h1, h2⟩ := h; exact ⟨v, h1, hl _ _ h2⟩
    | 2 => obtain ⟨β, val, R, hi, h1, h2⟩ := h; exact ⟨β, val, R, hi, h1, fun v => hl _ _ (h2 v)⟩
    | 3 => obtain ⟨v, h1, h2⟩ := h; exact ⟨v, h1, hl _ _ h2⟩
    | k + 4 => obtain ⟨β, val, R, hi, hg, h1, h2⟩ := h; exact ⟨β, val, R, hi, hg, h1, fun v => hl _ _ (h2 v)⟩
  · rename_i hwant
    rw [if_neg hwant] at h
    exact hl _ _ h

def mayPassC (ly lx : Nat) : Bool := ly == 0 || lx == 0 || ly == 3 || (ly == 1 && decide (lx ≤ 3))
/-- Two neighbours change places. -/
theorem wpE_swap {oy ox : Oper} {ly lx : Nat} {rest : List (Oper × Nat)} {C : World → Prop} {a : Act} (hp : mayPassC ly lx = true) (hap : ox.apart ops oy = true)
    (hsy : ∀ cs b, oy.op ≠ .select cs b) (hsx : ∀ cs b, ox.op ≠ .select cs b)
    (h : wpE G P ops Q ((oy, ly) :: (ox, lx) :: rest) C a) : wpE G P ops Q ((ox, lx) :: (oy, ly) :: rest) C a := by
  obtain ⟨p1, p2, p3⟩ := Oper.apart_spec hap
  have ex : ∀ v, execOp (a.put oy.dst v).eval ox = execOp a.eval ox := fun v => execOp_put (ops := ops) ox hsx a oy.dst v p3
  have ey : ∀ v, execOp (a.put ox.dst v).eval oy = execOp a.eval oy := fun v => execOp_put (ops := ops) oy hsy a ox.dst v p1
  have wx : ∀ v, Region.wanted ox (yielded ops (a.put oy.dst v).tmps) = Region.wanted ox (yielded ops a.tmps) := fun v => wanted_put ox a oy.dst v p3
  have wy : ∀ v, Region.wanted oy (yielded ops (a.put ox.dst v).tmps) = Region.wanted oy (yielded ops a.tmps) := fun v => wanted_put oy a ox.dst v p1
  have sx : ∀ v w R, stepAt P ox (a.put oy.dst v) w R = stepAt P ox a w R := fun v w R => stepAt_put (ops := ops) hsx p3 w R
  have sy : ∀ v w R, stepAt P oy (a.put ox.dst v) w R = stepAt P oy a w R := fun v w R => stepAt_put (ops := ops) hsy p1 w R
  have cm : ∀ u v, (a.put oy.dst u).put ox.dst v = (a.put ox.dst v).put oy.dst u := fun u v => (Act.put_comm a v u p2).symm
  unfold wpE at h
  by_cases hwy : Region.wanted oy (yielded ops a.tmps) = true
  · rw [if_pos hwy] at h
    by_cases hwx : Region.wanted ox (yielded ops a.tmps) = true
    · -- both are wanted
      match ly, lx with
      | 0, 0 =>
        obtain ⟨v, h1, h2⟩ := h
        unfold wpE at h2; rw [if_pos (by rw [wx]; exact hwx)] at h2
        obtain ⟨u, h3, h4⟩ := h2
        unfold wpE; rw [if_pos hwx]
        refine ⟨u, fun w => by rw [← ex v]; exact h3 w, ?_⟩
        unfold wpE; rw [if_pos (by rw [wy]; exact hwy)]
        exact ⟨v, fun w => by rw [ey]; exact h1 w, by rw [← cm]; exact h4⟩
      | 0, 1 =>
        obtain ⟨v, h1, h2⟩ := h
        unfold wpE at h2; rw [if_pos (by rw [wx]; exact hwx)] at h2
        obtain ⟨u, h3, h4⟩ := h2
        unfold wpE; rw [if_pos hwx]
        refine ⟨u, fun w hc => by rw [← sx v]; exact h3 w hc, ?_⟩
        unfold wpE; rw [if_pos (by rw [wy]; exact hwy)]
        exact ⟨v, fun w => by rw [ey]; exact h1 w, by rw [← cm]; exact h4⟩
      | 0, 2 =>
        obtain ⟨v, h1, h2⟩ := h
        unfold wpE at h2; rw [if_pos (by rw [wx]; exact hwx)] at h2
        obtain ⟨β, val, R, hi, h3, h4⟩ := h2
        unfold wpE; rw [if_pos hwx]
        refine ⟨β, val, R, hi, fun w hc => by rw [← sx v]; exact h3 w hc, fun u => ?_⟩
        unfold wpE; rw [if_pos (by rw [wy]; exact hwy)]
        exact ⟨v, fun w => by rw [ey]; exact h1 w, by rw [← cm]; exact h4 u⟩
      | 0, 3 =>
        obtain ⟨v, h1, h2⟩ := h
        unfold wpE at h2; rw [if_pos (by rw [wx]; exact hwx)] at h2
        obtain ⟨u, h3, h4⟩ := h2
        unfold wpE; rw [if_pos hwx]
        refine ⟨u, fun w hc => by rw [← sx v]; exact h3 w hc, ?_⟩
        unfold wpE; rw [if_pos (by rw [wy]; exact hwy)]
        exact ⟨v, fun w => by rw [ey]; exact h1 w, by rw [← cm]; exact h4⟩
      | 0, k + 4 =>
        obtain ⟨v, h1, h2⟩ := h
        unfold wpE at h2; rw [if_pos (by rw [wx]; exact hwx)] at h2
        obtain ⟨β, val, R, hi, hg, h3, h4⟩ := h2
        unfold wpE; rw [if_pos hwx]
        refine ⟨β, val, R, hi, hg, fun w hc => by rw [← sx v]; exact h3 w hc, fun u => ?_⟩
        unfold wpE; rw [if_pos (by rw [wy]; exact hwy)]
        exact ⟨v, fun w => by rw [ey]; exact h1 w, by rw [← cm]; exact h4 u⟩
      | 1, 0 =>
        obtain ⟨v, h1, h2⟩ := h
        unfold wpE at h2; rw [if_pos (by rw [wx]; exact hwx)] at h2
        obtain ⟨u, h3, h4⟩ := h2
        unfold wpE; rw [if_pos hwx]
        refine ⟨u, fun w => by rw [← ex v]; exact h3 w, ?_⟩
        unfold wpE; rw [if_pos (by rw [wy]; exact hwy)]
        exact ⟨v, fun w hc => by rw [sy]; exact h1 w hc, by rw [← cm]; exact h4⟩
      | 1, 1 =>
        obtain ⟨v, h1, h2⟩ := h
        unfold wpE at h2; rw [if_pos (by rw [wx]; exact hwx)] at h2
        obtain ⟨u, h3, h4⟩ := h2
        unfold wpE; rw [if_pos hwx]
        refine ⟨u, fun w hc => by rw [← sx v]; exact h3 w hc, ?_⟩
        unfold wpE; rw [if_pos (by rw [wy]; exact hwy)]
        exact ⟨v, fun w hc => by rw [sy]; exact h1 w hc, by rw [← cm]; exact h4⟩
      | 1, 2 =>
        obtain ⟨v, h1, h2⟩ := h
        unfold wpE at h2; rw [if_pos (by rw [wx]; exact hwx)] at h2
        obtain ⟨β, val, R, hi, h3, h4⟩ := h2
        unfold wpE; rw [if_pos hwx]
        refine ⟨β, val, R, hi, fun w hc => by rw [← sx v]; exact h3 w hc, fun u => ?_⟩
        unfold wpE; rw [if_pos (by rw [wy]; exact hwy)]
        exact ⟨v, fun w hc => by rw [sy]; exact h1 w hc.1, by rw [← cm]; exact h4 u⟩
      | 1, 3 =>
        obtain ⟨v, h1, h2⟩ := h
        unfold wpE at h2; rw [if_pos (by rw [wx]; exact hwx)] at h2
        obtain ⟨u, h3, h4⟩ := h2
        unfold wpE; rw [if_pos hwx]
        refine ⟨u, fun w hc => by rw [← sx v]; exact h3 w hc, ?_⟩
        unfold wpE; rw [if_pos (by rw [wy]; exact hwy)]
        exact ⟨v, fun w hc => by rw [sy]; exact h1 w hc, by rw [← cm]; exact h4⟩
      | 1, k + 4 => simp [mayPassC] at hp
      | 2, 0 =>
        obtain ⟨β, val, R, hi, h1, h2⟩ := h
        obtain ⟨b0⟩ := hi
        have h3 := h2 b0
        unfold wpE at h3; rw [if_pos (by rw [wx]; exact hwx)] at h3
        obtain ⟨u, h4, _⟩ := h3
        unfold wpE; rw [if_pos hwx]
        refine ⟨u, fun w => by rw [← ex (val b0)]; exact h4 w, ?_⟩
        unfold wpE; rw [if_pos (by rw [wy]; exact hwy)]
        refine ⟨β, val, R, ⟨b0⟩, fun w hc => by rw [sy]; exact h1 w hc, fun v => ?_⟩
        have h5 := h2 v
        unfold wpE at h5; rw [if_pos (by rw [wx]; exact hwx)] at h5
        obtain ⟨u', h6, h7⟩ := h5
        have e : u' = u := by
          have a1 := h4 default; have a2 := h6 default
          rw [ex] at a1 a2; rw [a1] at a2; injection a2 with a2; injection a2 with a2; exact a2.symm
        rw [← cm, ← e]; exact h7
      | 3, 0 =>
        obtain ⟨v, h1, h2⟩ := h
        unfold wpE at h2; rw [if_pos (by rw [wx]; exact hwx)] at h2
        obtain ⟨u, h3, h4⟩ := h2
        unfold wpE; rw [if_pos hwx]
        refine ⟨u, fun w => by rw [← ex v]; exact h3 w, ?_⟩
        unfold wpE; rw [if_pos (by rw [wy]; exact hwy)]
        exact ⟨v, fun w hc => by rw [sy]; exact h1 w hc, by rw [← cm]; exact h4⟩
      | 3, 1 =>
        obtain ⟨v, h1, h2⟩ := h
        unfold wpE at h2; rw [if_pos (by rw [wx]; exact hwx)] at h2
        obtain ⟨u, h3, h4⟩ := h2
        unfold wpE; rw [if_pos hwx]
        refine ⟨u, fun w hc => by rw [← sx v]; exact h3 w hc, ?_⟩
        unfold wpE; rw [if_pos (by rw [wy]; exact hwy)]
        exact ⟨v, fun w hc => by rw [sy]; exact h1 w hc, by rw [← cm]; exact h4⟩
      | 3, 2 =>
        obtain ⟨v, h1, h2⟩ := h
        unfold wpE at h2; rw [if_pos (by rw [wx]; exact hwx)] at h2
        obtain ⟨β, val, R, hi, h3, h4⟩ := h2
        unfold wpE; rw [if_pos hwx]
        refine ⟨β, val, R, hi, fun w hc => by rw [← sx v]; exact h3 w hc, fun u => ?_⟩
        unfold wpE; rw [if_pos (by rw [wy]; exact hwy)]
        exact ⟨v, fun w hc => by rw [sy]; exact h1 w hc, by rw [← cm]; exact h4 u⟩
      | 3, 3 =>
        obtain ⟨v, h1, h2⟩ := h
        unfold wpE at h2; rw [if_pos (by rw [wx]; exact hwx)] at h2
        obtain ⟨u, h3, h4⟩ := h2
        unfold wpE; rw [if_pos hwx]
        refine ⟨u, fun w hc => by rw [← sx v]; exact h3 w hc, ?_⟩
        unfold wpE; rw [if_pos (by rw [wy]; exact hwy)]
        exact ⟨v, fun w hc => by rw [sy]; exact h1 w hc, by rw [← cm]; exact h4⟩
      | 3, k + 4 =>
        obtain ⟨v, h1, h2⟩ := h
        unfold wpE at h2; rw [if_pos (by rw [wx]; exact hwx)] at h2
        obtain ⟨β, val, R, hi, hg, h3, h4⟩ := h2
        unfold wpE; rw [if_pos hwx]
        refine ⟨β, val, R, hi, hg, fun w hc => by rw [← sx v]; exact h3 w hc, fun u => ?_⟩
        unfold wpE; rw [if_pos (by rw [wy]; exact hwy)]
        exact ⟨v, fun w hc => by rw [sy]; exact h1 w hc, by rw [← cm]; exact h4 u⟩
      | k + 4, 0 =>
        obtain ⟨β, val, R, hi, hg, h1, h2⟩ := h
        obtain ⟨b0⟩ := hi
        have h3 := h2 b0
        unfold wpE at h3; rw [if_pos (by rw [wx]; exact hwx)] at h3
        obtain ⟨u, h4, _⟩ := h3
        unfold wpE; rw [if_pos hwx]
        refine ⟨u, fun w => by rw [← ex (val b0)]; exact h4 w, ?_⟩
        unfold wpE; rw [if_pos (by rw [wy]; exact hwy)]
        refine ⟨β, val, R, ⟨b0⟩, hg, fun w hc => by rw [sy]; exact h1 w hc, fun v => ?_⟩
        have h5 := h2 v
        unfold wpE at h5; rw [if_pos (by rw [wx]; exact hwx)] at h5
        obtain ⟨u', h6, h7⟩ := h5
        have e : u' = u := by
          have a1 := h4 default; have a2 := h6 default
          rw [ex] at a1 a2; rw [a1] at a2; injection a2 with a2; injection a2 with a2; exact a2.symm
        rw [← cm, ← e]; exact h7
      | 2, k + 1 => simp [mayPassC] at hp
      | j + 4, k + 1 => simp [mayPassC] at hp
    · -- x is passed over
      have sk : ∀ (C : World → Prop) (v : Value), wpE G P ops Q ((ox, lx) :: rest) C (a.put oy.dst v) → wpE G P ops Q rest C ((a.put ox.dst undef).put oy.dst v) := fun C v hh => by
        unfold wpE at hh; rw [if_neg (by rw [wx]; exact hwx)] at hh; rw [← cm]; exact hh
      unfold wpE; rw [if_neg hwx]
      unfold wpE; rw [if_pos (by rw [wy]; exact hwy)]
      match ly with
      | 0 => obtain ⟨v, h1, h2⟩ := h; exact ⟨v, fun w => by rw [ey]; exact h1 w, sk _ _ h2⟩
      | 1 => obtain ⟨v, h1, h2⟩ := h; exact ⟨v, fun w hc => by rw [sy]; exact h1 w hc, sk _ _ h2⟩
      | 2 => obtain ⟨β, val, R, hi, h1, h2⟩ := h; exact ⟨β, val, R, hi, fun w hc => by rw [sy]; exact h1 w hc, fun v => sk _ _ (h2 v)⟩
      | 3 => obtain ⟨v, h1, h2⟩ := h; exact ⟨v, fun w hc => by rw [sy]; exact h1 w hc, sk _ _ h2⟩
      | k + 4 => obtain ⟨β, val, R, hi, hg, h1, h2⟩ := h; exact ⟨β, val, R, hi, hg, fun w hc => by rw [sy]; exact h1 w hc, fun v => sk _ _ (h2 v)⟩
  · -- y is passed over
    rw [if_neg hwy] at h
    have sk : ∀ (C : World → Prop) (v : Value), wpE G P ops Q rest C ((a.put oy.dst undef).put ox.dst v) → wpE G P ops Q ((oy, ly) :: rest) C (a.put ox.dst v) := fun C v hh => by
      unfold wpE; rw [if_neg (by rw [wy]; exact hwy)]; rw [← cm]; exact hh
    unfold wpE at h
    by_cases hwx : Region.wanted ox (yielded ops a.tmps) = true
    · rw [if_pos (by rw [wx]; exact hwx)] at h
      unfold wpE; rw [if_pos hwx]
      match lx with
      | 0 => obtain ⟨v, h1, h2⟩ := h; exact ⟨v, fun w => by rw [← ex undef]; exact h1 w, sk _ _ h2⟩
      | 1 => obtain ⟨v, h1, h2⟩ := h; exact ⟨v, fun w hc => by rw [← sx undef]; exact h1 w hc, sk _ _ h2⟩
      | 2 => obtain ⟨β, val, R, hi, h1, h2⟩ := h; exact ⟨β, val, R, hi, fun w hc => by rw [← sx undef]; exact h1 w hc, fun v => sk _ _ (h2 v)⟩
      | 3 => obtain ⟨v, h1, h2⟩ := h; exact ⟨v, fun w hc => by rw [← sx undef]; exact h1 w hc, sk _ _ h2⟩
      | k + 4 => obtain ⟨β, val, R, hi, hg, h1, h2⟩ := h; exact ⟨β, val, R, hi, hg, fun w hc => by rw [← sx undef]; exact h1 w hc, fun v => sk _ _ (h2 v)⟩
    · rw [if_neg (by rw [wx]; exact hwx)] at h
      unfold wpE; rw [if_neg hwx]
      exact sk _ _ h

/-- One that all ahead of it let pass is pulled to the head. -/
theorem wpE_pull {x : Oper × Nat} {post : List (Oper × Nat)} (hsx : ∀ cs b, x.1.op ≠ .select cs b) : ∀ (pre : List (Oper × Nat)),
    (∀ y ∈ pre, mayPassC y.2 x.2 = true ∧ x.1.apart ops y.1 = true ∧ ∀ cs b, y.1.op ≠ .select cs b) →
    ∀ (C : World → Prop) (a : Act), wpE G P ops Q (pre ++ x :: post) C a → wpE G P ops Q (x :: (pre ++ post)) C a
  | [], _, _, _, h => h
  | y :: pre, hy, C, a, h => by
    obtain ⟨m1, m2, m3⟩ := hy y (by simp)
    have h1 := wpE_tail (x := y) (fun C a => wpE_pull hsx pre (fun z hz => hy z (by simp [hz])) C a) h
    exact wpE_swap m1 m2 m3 hsx h1
end

/-! ### which must come ahead of which -/
def pairOkC (ops : Array Oper) (anc : Array Nat) (y x : Nat × Nat) : Bool :=
  (anc.getD x.1 0).testBit y.1 || (mayPassC y.2 x.2 && (ops.getD x.1 default).apart ops (ops.getD y.1 default))
def listOkC (ops : Array Oper) (anc : Array Nat) : List (Nat × Nat) → Bool
  | [] => true
  | y :: l => l.all (pairOkC ops anc y) && listOkC ops anc l
def planOkC (ops : Array Oper) (plan : List (Nat × Nat)) : Bool :=
  Region.noSelect ops && backB ops && decide (plan.length = ops.size) && (plan.all fun p => decide (p.1 < ops.size)) && ((List.range ops.size).all fun i => (plan.map (·.1)).contains i) && nodupB (plan.map (·.1)) && listOkC ops (ancAll ops.toList #[]) plan
theorem listOk_midC {ops : Array Oper} {anc : Array Nat} {x : Nat × Nat} {post : List (Nat × Nat)} : ∀ {pre : List (Nat × Nat)}, listOkC ops anc (pre ++ x :: post) = true →
    (∀ y ∈ pre, pairOkC ops anc y x = true) ∧ listOkC ops anc (pre ++ post) = true
  | [], h => by
    simp only [List.nil_append, listOkC, Bool.and_eq_true] at h
    exact ⟨fun y hy => by simp at hy, h.2⟩
  | y :: pre, h => by
    simp only [List.cons_append, listOkC, Bool.and_eq_true, List.all_eq_true] at h ⊢
    obtain ⟨h1, h2⟩ := listOk_midC h.2
    refine ⟨fun z hz => ?_, fun z hz => h.1 z ?_, h2⟩
    · rcases List.mem_cons.1 hz with rfl | hz
      · exact h.1 x (by simp)
      · exact h1 z hz
    · rcases List.mem_append.1 hz with hz | hz
      · simp [hz]
      · simp [hz]

structure wpQ (G : World → Prop) (P : Program) (ops : Array Oper) (Q : Act → World → Prop) (plan : List (Nat × Nat)) (C : World → Prop) (a : Act) : Prop where
  of ::
  out : wpE G P ops Q (pick ops plan) C a

section
variable {F : Fence} {n : Nat} {P : Program} {ops : Array Oper} {Q : Exit → Act → World → Prop} {G : World → Prop}
theorem wpAny_of_planC (hF : WideF F) (hsel : Region.noSelect ops = true) (hdef : noDefer ops = true) (hback : backB ops = true) : ∀ (fuel : Nat) (listed : Array Bool) (a : Act) (w : World) (l : List (Nat × Nat)) (C : World → Prop),
    l.length = fuel → listed.size = ops.size → (∀ i, i ∈ l.map (·.1) ↔ (i < ops.size ∧ listed.getD i false = false)) → (l.map (·.1)).Nodup →
    listOkC ops (ancAll ops.toList #[]) l = true → ClosedL ops listed → (∀ w, C w → G w) → C w → wpQ G P ops (Q .normal) l C a → wpAnyIn F n P .any ops Q fuel listed a w := by
  intro fuel
  induction fuel with
  | zero =>
    intro listed a w l C hlen hsz hmem _ _ _ _ hC h
    have hl : l = [] := List.eq_nil_of_length_eq_zero hlen
    subst hl
    refine ⟨?_, h.out w hC⟩
    refine List.eq_nil_iff_forall_not_mem.2 fun i hi => ?_
    obtain ⟨h1, o, ho, _⟩ := mem_ready.1 hi
    have hlt := (Array.getElem?_eq_some_iff.1 ho).1
    have := (hmem i).2 ⟨hlt, by
      rw [Array.getD_eq_getD_getElem?, Array.getElem?_eq_getElem (by omega)] at h1 ⊢
      simpa using h1⟩
    simp at this
  | succ fuel ih =>
    intro listed a w l C hlen hsz hmem hnd hok hcl hG hC h
    refine ⟨fun hr => ?_, fun i hi => ?_⟩
    · -- something is always ready
      exfalso
      have hex : ∃ i, i < ops.size ∧ listed.getD i false = false := by
        cases l with
        | nil => simp at hlen
        | cons x l => exact ⟨x.1, (hmem x.1).1 (by simp)⟩
      have hmin : ∃ i, (i < ops.size ∧ listed.getD i false = false) ∧ ∀ j, j < i → ¬ (j < ops.size ∧ listed.getD j false = false) := by
        obtain ⟨i, hi⟩ := hex
        induction i using Nat.strongRecOn with
        | _ i ih2 =>
          by_cases hj : ∃ j, j < i ∧ (j < ops.size ∧ listed.getD j false = false)
          · obtain ⟨j, hji, hj⟩ := hj; exact ih2 j hji hj
          · exact ⟨i, hi, fun j hji hh => hj ⟨j, hji, hh⟩⟩
      obtain ⟨i, ⟨hi, hil⟩, hmin⟩ := hmin
      have : i ∈ Region.ready .any ops listed := by
        refine mem_ready.2 ⟨?_, ops[i], Array.getElem?_eq_getElem hi, fun e he hb => ?_⟩
        · rw [Array.getD_eq_getD_getElem?, Array.getElem?_eq_getElem (by omega)] at hil ⊢
          simpa using hil
        · have h1 := List.all_eq_true.1 hback i (by simpa using hi)
          rw [Array.getD_eq_getD_getElem?, Array.getElem?_eq_getElem hi, Option.getD_some] at h1
          have h2 := Array.all_eq_true_iff_forall_mem.1 h1 e he
          simp only [hb, Bool.not_true, Bool.false_or, decide_eq_true_eq] at h2
          have h3 := hmin e.on h2
          cases hh : listed.getD e.on false
          · exact absurd ⟨by omega, hh⟩ h3
          · rfl
      rw [hr] at this
      simp at this
    · obtain ⟨h1, o, ho, hpr⟩ := mem_ready.1 hi
      have hlt := (Array.getElem?_eq_some_iff.1 ho).1
      have hun : listed.getD i false = false := by
        rw [Array.getD_eq_getD_getElem?, Array.getElem?_eq_getElem (by omega)] at h1 ⊢
        simpa using h1
      have hin := (hmem i).2 ⟨hlt, hun⟩
      obtain ⟨⟨i', lab⟩, hx, rfl⟩ := List.mem_map.1 hin
      obtain ⟨pre, post, rfl⟩ := List.append_of_mem hx
      obtain ⟨hpair, hok'⟩ := listOk_midC hok
      have hoD : ops.getD i' default = o := by rw [Array.getD_eq_getD_getElem?, ho]; rfl
      have hselo : ∀ (j : Nat) cs b, (ops.getD j default).op ≠ .select cs b := fun j cs b => by
        rcases Nat.lt_or_ge j ops.size with hj | hj
        · rw [Array.getD_eq_getD_getElem?, Array.getElem?_eq_getElem hj]
          exact Region.noSelect_spec hsel j _ cs b (Array.getElem?_eq_getElem hj)
        · rw [Array.getD_eq_getD_getElem?, Array.getElem?_eq_none hj]
          intro hh; cases hh
      have hpull : wpE G P ops (Q .normal) ((o, lab) :: pick ops (pre ++ post)) C a := by
        have h2 : wpE G P ops (Q .normal) (pick ops pre ++ (o, lab) :: pick ops post) C a := by
          have h2 := h.out
          unfold pick at h2
          rw [List.map_append, List.map_cons] at h2
          simp only [hoD] at h2
          exact h2
        have h3 := wpE_pull (x := (o, lab)) (fun cs b => by rw [← hoD]; exact hselo i' cs b) (pick ops pre) (fun y hy => by
          obtain ⟨p, hp, rfl⟩ := List.mem_map.1 hy
          have h4 := hpair p hp
          simp only [pairOkC, Bool.or_eq_true, Bool.and_eq_true] at h4
          rcases h4 with h4 | h4
          · exfalso
            have h5 := anc_of_bit h4 listed o hcl ho hpr
            have h6 := (hmem p.1).1 (List.mem_map.2 ⟨p, by simp [hp], rfl⟩)
            rw [h5] at h6
            cases h6.2
          · exact ⟨h4.1, by rw [hoD] at h4; exact h4.2, fun cs b => hselo p.1 cs b⟩) C a h2
        rw [show pick ops (pre ++ post) = pick ops pre ++ pick ops post from List.map_append]
        exact h3
      have hnext : ∀ (C' : World → Prop) (v : Value) (w' : World), (∀ w, C' w → G w) → C' w' → wpE G P ops (Q .normal) (pick ops (pre ++ post)) C' (a.put o.dst v) →
          wpAnyIn F n P .any ops Q fuel (listed.setIfInBounds i' true) (a.put o.dst v) w' := fun C' v w' hG' hC' hh => by
        refine ih _ _ w' (pre ++ post) C' (by simp at hlen ⊢; omega) (by simpa using hsz) (fun j => ?_) ?_ hok' (fun j oj hj hlj => ?_) hG' hC' ⟨hh⟩
        · rw [List.map_append, List.map_cons] at hnd
          have hnin : i' ∉ pre.map (·.1) ++ post.map (·.1) := by
            have := (List.perm_middle (a := i') (l₁ := pre.map (·.1)) (l₂ := post.map (·.1))).nodup_iff.1 hnd
            exact (List.nodup_cons.1 this).1
          by_cases hji : j = i'
          · subst hji
            rw [List.map_append]
            constructor
            · intro hh; exact absurd hh hnin
            · rintro ⟨_, hh⟩
              rw [Array.getD_eq_getD_getElem?, Array.getElem?_setIfInBounds_self_of_lt (by omega)] at hh
              cases hh
          · have h5 := hmem j
            rw [getD_set_ne false (Ne.symm hji)]
            rw [← h5]
            simp only [List.map_append, List.map_cons, List.mem_append, List.mem_cons]
            constructor
            · rintro (hh | hh)
              · exact .inl hh
              · exact .inr (.inr hh)
            · rintro (hh | hh | hh)
              · exact .inl hh
              · exact absurd hh hji
              · exact .inr hh
        · rw [List.map_append, List.map_cons] at hnd
          rw [List.map_append]
          have := (List.perm_middle (a := i') (l₁ := pre.map (·.1)) (l₂ := post.map (·.1))).nodup_iff.1 hnd
          exact (List.nodup_cons.1 this).2
        · intro e he hb
          by_cases hji : j = i'
          · subst hji
            have : oj = o := by rw [ho] at hj; injection hj with hj; exact hj.symm
            subst this
            exact getD_set_true (hpr e he hb)
          · rw [getD_set_ne false (Ne.symm hji)] at hlj
            exact getD_set_true (hcl j oj hj hlj e he hb)
      unfold wpOpIn
      simp only [ho]
      have hdo : ∀ c, o.op ≠ .defer c := fun c hc => by
        have h7 := Array.all_eq_true_iff_forall_mem.1 hdef o (Array.mem_of_getElem? ho)
        rw [hc] at h7; cases h7
      unfold wpE at hpull
      by_cases hw : Region.wanted o (yielded ops a.tmps) = true
      · rw [if_pos hw] at hpull ⊢
        match lab with
        | 0 =>
          obtain ⟨v, h2, h3⟩ := hpull
          refine stepAt_in hF hdo (R := fun u w' => u = v ∧ w' = w) ?_ ?_
          · unfold stepAt; rw [h2 w]; exact ⟨rfl, rfl⟩
          · rintro u w' ⟨rfl, rfl⟩; exact hnext C _ _ hG hC h3
        | 1 =>
          obtain ⟨v, h2, h3⟩ := hpull
          refine stepAt_in hF hdo (h2 w hC) ?_
          rintro u w' ⟨rfl, rfl⟩; exact hnext C _ _ hG hC h3
        | 2 =>
          obtain ⟨β, val, R, hi, h2, h3⟩ := hpull
          refine stepAt_in hF hdo (h2 w hC) ?_
          rintro u' w' ⟨u, rfl, hext, hR⟩
          exact hnext (fun w => C w ∧ R u w) _ _ (fun w h => hG w h.1) ⟨hext, hR⟩ (h3 u)
        | 3 =>
          obtain ⟨v, h2, h3⟩ := hpull
          refine stepAt_in hF hdo (h2 w (hG w hC)) ?_
          rintro u w' ⟨rfl, rfl⟩; exact hnext C _ _ hG hC h3
        | k + 4 =>
          obtain ⟨β, val, R, hi, hg, h2, h3⟩ := hpull
          refine stepAt_in hF hdo (h2 w hC) ?_
          rintro u' w' ⟨u, rfl, hR⟩
          exact hnext (R u) _ _ (hg u) hR (h3 u)
      · rw [if_neg hw] at hpull ⊢
        exact ⟨fun f _ => hF.fn f, hnext C _ _ hG hC hpull⟩

theorem wpIn_region_planC (hF : WideF F) {id : Nat} {a : Act} {w : World} (plan : List (Nat × Nat)) (hm : P.follows .mixedOrders = true) (hB : planOkC ops plan = true) (hD : noDefer ops = true) (C : World → Prop) (hG : ∀ w, C w → G w)
    (hC : C { w with drawn := w.drawn + 1 }) (h : wpQ G P ops (Q .normal) plan C a) : (Code.region id ops true).wpIn F n P Q a w := by
  simp only [planOkC, Bool.and_eq_true, decide_eq_true_eq, List.all_eq_true] at hB
  obtain ⟨⟨⟨⟨⟨⟨h1, h2⟩, h3⟩, h4⟩, h7⟩, h5⟩, h6⟩ := hB
  have hnd := nodupB_spec h5
  refine wpIn_region_any hm (wpAny_of_planC hF h1 hD h2 ops.size _ a _ plan C h3 (by simp) (fun i => ?_) hnd h6 (fun i o _ hl => ?_) hG hC h)
  · constructor
    · intro hi
      obtain ⟨p, hp, rfl⟩ := List.mem_map.1 hi
      have := h4 p hp
      refine ⟨this, ?_⟩
      rw [Array.getD_eq_getD_getElem?, Array.getElem?_replicate, if_pos this]; rfl
    · rintro ⟨hi, _⟩
      simpa using h7 i (by simpa using hi)
  · exfalso
    rw [Array.getD_eq_getD_getElem?, Array.getElem?_replicate] at hl
    split at hl <;> cases hl

theorem wp_region_planC {id : Nat} {a : Act} {w : World} (plan : List (Nat × Nat)) (hm : P.follows .mixedOrders = true) (hB : planOkC ops plan = true) (hD : noDefer ops = true) (C : World → Prop) (hG : ∀ w, C w → G w)
    (hC : C { w with drawn := w.drawn + 1 }) (h : wpQ G P ops (Q .normal) plan C a) : (Code.region id ops true).wp P Q a w :=
  (wpIn_wide (n := 0)).1 (wpIn_region_planC wideF_wide plan hm hB hD C hG hC h)
end
namespace Gx
section
variable {G : World → Prop} {P : Program} {ol : List Oper} {Q : Act → World → Prop} {i : Nat} {rest : List (Nat × Nat)} {C : World → Prop} {l l' : List Value} {D : List Deferred} {v u : Value}
  {d : Tmp} {od : Option Tmp} {p : Op} {t : TypeId} {s : String} {af : Array Edge} {g : Option (Nat × Bool)} {lab : Nat}

theorem done {a : Act} {ops : Array Oper} (h : ∀ w, C w → Q a w) : wpQ G P ops Q [] C a := ⟨h⟩

theorem getD_nth {o : Oper} (ho : nth ol i = some o) : ol.toArray.getD i default = o := by
  rw [nth_eq] at ho
  rw [Array.getD_eq_getD_getElem?, List.getElem?_toArray, ho]; rfl

theorem of_F {o : Oper} {a : Act} (ho : nth ol i = some o) (h : wpE G P ol.toArray Q ((o, lab) :: pick ol.toArray rest) C a) : wpQ G P ol.toArray Q ((i, lab) :: rest) C a := by
  refine ⟨?_⟩
  unfold pick
  rw [List.map_cons]
  simp only [getD_nth ho]
  exact h
theorem lab0 {a : Act} {ops : Array Oper} (h : wpQ G P ops Q ((i, 0) :: rest) C a) : wpQ G P ops Q ((i, 0) :: rest) C a := h
theorem lab1 {a : Act} {ops : Array Oper} (h : wpQ G P ops Q ((i, 1) :: rest) C a) : wpQ G P ops Q ((i, 1) :: rest) C a := h

theorem put_lit : (Act.mk l.toArray D).put (some d) v = ⟨(l.set d v).toArray, D⟩ := by simp [Act.put]

theorem skip (ho : nth ol i = some ⟨some d, p, t, s, af, g⟩) (hw : gd ol l g = false) (ha : l.set d undef = l')
    (h : wpQ G P ol.toArray Q rest C ⟨l'.toArray, D⟩) : wpQ G P ol.toArray Q ((i, lab) :: rest) C ⟨l.toArray, D⟩ := by
  refine of_F ho ?_
  unfold wpE
  rw [if_neg (by rw [wanted_gd, hw]; exact Bool.false_ne_true), put_lit, ha]
  exact h.out

theorem pure_ (ho : nth ol i = some ⟨some d, p, t, s, af, g⟩) (hw : gd ol l g = true)
    (hr : ∀ w, (execOp (Act.mk l.toArray D).eval ⟨some d, p, t, s, af, g⟩).run P w = .ok (.value v) w) (ha : l.set d v = l')
    (h : wpQ G P ol.toArray Q rest C ⟨l'.toArray, D⟩) : wpQ G P ol.toArray Q ((i, 0) :: rest) C ⟨l.toArray, D⟩ := by
  refine of_F ho ?_
  unfold wpE
  rw [if_pos (by rw [wanted_gd, hw])]
  refine ⟨v, hr, ?_⟩
  rw [put_lit, ha]
  exact h.out

theorem moveT {k : Nat} (ho : nth ol i = some ⟨some d, .move (.tmp k), t, s, af, g⟩) (hw : gd ol l g = true)
    (hx : nth l k = some v) (ha : l.set d v = l') (h : wpQ G P ol.toArray Q rest C ⟨l'.toArray, D⟩) : wpQ G P ol.toArray Q ((i, 0) :: rest) C ⟨l.toArray, D⟩ :=
  pure_ ho hw (fun w => by rw [nth_eq] at hx; simp [execOp, Act.eval, hx]) ha h
theorem assignT {k : Nat} (ho : nth ol i = some ⟨some d, .assign (.tmp k), t, s, af, g⟩) (hw : gd ol l g = true)
    (hx : nth l k = some v) (ha : l.set d v = l') (h : wpQ G P ol.toArray Q rest C ⟨l'.toArray, D⟩) : wpQ G P ol.toArray Q ((i, 0) :: rest) C ⟨l.toArray, D⟩ :=
  pure_ ho hw (fun w => by rw [nth_eq] at hx; simp [execOp, Act.eval, hx]) ha h

theorem look (ho : nth ol i = some ⟨some d, p, t, s, af, g⟩) (hw : gd ol l g = true)
    (hr : ∀ w, C w → (execOp (Act.mk l.toArray D).eval ⟨some d, p, t, s, af, g⟩).run P w = .ok (.value v) w) (ha : l.set d v = l')
    (h : wpQ G P ol.toArray Q rest C ⟨l'.toArray, D⟩) : wpQ G P ol.toArray Q ((i, 1) :: rest) C ⟨l.toArray, D⟩ := by
  refine of_F ho ?_
  unfold wpE
  rw [if_pos (by rw [wanted_gd, hw])]
  refine ⟨v, fun w hc => ?_, ?_⟩
  · unfold stepAt; rw [hr w hc]; exact ⟨rfl, rfl⟩
  · rw [put_lit, ha]; exact h.out
/-- A look that all the region's worlds allow. -/
theorem lookG (ho : nth ol i = some ⟨some d, p, t, s, af, g⟩) (hw : gd ol l g = true)
    (hr : ∀ w, G w → (execOp (Act.mk l.toArray D).eval ⟨some d, p, t, s, af, g⟩).run P w = .ok (.value v) w) (ha : l.set d v = l')
    (h : wpQ G P ol.toArray Q rest C ⟨l'.toArray, D⟩) : wpQ G P ol.toArray Q ((i, 3) :: rest) C ⟨l.toArray, D⟩ := by
  refine of_F ho ?_
  unfold wpE
  rw [if_pos (by rw [wanted_gd, hw])]
  refine ⟨v, fun w hc => ?_, ?_⟩
  · unfold stepAt; rw [hr w hc]; exact ⟨rfl, rfl⟩
  · rw [put_lit, ha]; exact h.out
/-- A step that keeps the class. -/
theorem keep (R : Value → World → Prop) (ho : nth ol i = some ⟨some d, p, t, s, af, g⟩) (hw : gd ol l g = true)
    (hr : ∀ w, C w → stepAt P ⟨some d, p, t, s, af, g⟩ ⟨l.toArray, D⟩ w (fun u w' => C w' ∧ R u w'))
    (h : ∀ v, wpQ G P ol.toArray Q rest (fun w => C w ∧ R v w) ⟨(l.set d v).toArray, D⟩) : wpQ G P ol.toArray Q ((i, 2) :: rest) C ⟨l.toArray, D⟩ := by
  refine of_F ho ?_
  unfold wpE
  rw [if_pos (by rw [wanted_gd, hw])]
  refine ⟨Value, id, R, ⟨undef⟩, fun w hC => stepAt_mono (hr w hC) (fun v w' hv => ⟨v, rfl, hv⟩), fun v => ?_⟩
  rw [put_lit]; exact (h v).out
/-- A step that keeps the class and yields one value. -/
theorem keepV (u : Value) (R : World → Prop) (ho : nth ol i = some ⟨some d, p, t, s, af, g⟩) (hw : gd ol l g = true)
    (hr : ∀ w, C w → stepAt P ⟨some d, p, t, s, af, g⟩ ⟨l.toArray, D⟩ w (fun u' w' => u' = u ∧ C w' ∧ R w')) (ha : l.set d u = l')
    (h : wpQ G P ol.toArray Q rest (fun w => C w ∧ R w) ⟨l'.toArray, D⟩) : wpQ G P ol.toArray Q ((i, 2) :: rest) C ⟨l.toArray, D⟩ := by
  refine of_F ho ?_
  unfold wpE
  rw [if_pos (by rw [wanted_gd, hw])]
  refine ⟨Unit, fun _ => u, fun _ => R, ⟨()⟩, fun w hC => stepAt_mono (hr w hC) (fun v w' hv => ⟨(), hv.1, hv.2⟩), fun v => ?_⟩
  rw [put_lit, ha]; exact h.out
theorem eff (R : Value → World → Prop) (hg : ∀ v w, R v w → G w) (ho : nth ol i = some ⟨some d, p, t, s, af, g⟩) (hw : gd ol l g = true)
    (hr : ∀ w, C w → stepAt P ⟨some d, p, t, s, af, g⟩ ⟨l.toArray, D⟩ w R)
    (h : ∀ v, wpQ G P ol.toArray Q rest (R v) ⟨(l.set d v).toArray, D⟩) : wpQ G P ol.toArray Q ((i, 4) :: rest) C ⟨l.toArray, D⟩ := by
  refine of_F ho ?_
  unfold wpE
  rw [if_pos (by rw [wanted_gd, hw])]
  refine ⟨Value, id, R, ⟨undef⟩, hg, fun w hC => stepAt_mono (hr w hC) (fun v w' hv => ⟨v, rfl, hv⟩), fun v => ?_⟩
  rw [put_lit]; exact (h v).out
theorem eff0 (R : World → Prop) (hg : ∀ w, R w → G w) (ho : nth ol i = some ⟨none, p, t, s, af, g⟩) (hw : gd ol l g = true)
    (hr : ∀ w, C w → stepAt P ⟨none, p, t, s, af, g⟩ ⟨l.toArray, D⟩ w (fun _ => R))
    (h : wpQ G P ol.toArray Q rest R ⟨l.toArray, D⟩) : wpQ G P ol.toArray Q ((i, 4) :: rest) C ⟨l.toArray, D⟩ := by
  refine of_F ho ?_
  unfold wpE
  rw [if_pos (by rw [wanted_gd, hw])]
  exact ⟨Value, id, fun _ => R, ⟨undef⟩, fun _ => hg, fun w hC => stepAt_mono (hr w hC) (fun v w' hv => ⟨v, rfl, hv⟩), fun v => h.out⟩
theorem store (q : Addr) (u : Value) (hg : ∀ w, C w → G (w.setCell q u)) (ho : nth ol i = some ⟨none, p, t, s, af, g⟩) (hw : gd ol l g = true)
    (hr : ∀ w, C w → (execOp (Act.mk l.toArray D).eval ⟨none, p, t, s, af, g⟩).run P w = .ok .skip (w.setCell q u))
    (h : wpQ G P ol.toArray Q rest (fun w'' => ∃ w', C w' ∧ w'' = w'.setCell q u) ⟨l.toArray, D⟩) : wpQ G P ol.toArray Q ((i, 4) :: rest) C ⟨l.toArray, D⟩ :=
  eff0 _ (fun w ⟨w', h1, h2⟩ => h2 ▸ hg w' h1) ho hw (fun w hC => by unfold stepAt; rw [hr w hC]; exact ⟨w, hC, rfl⟩) h
end
end Gx
end Go.Proofs.Ytokljdkeegdniaa
