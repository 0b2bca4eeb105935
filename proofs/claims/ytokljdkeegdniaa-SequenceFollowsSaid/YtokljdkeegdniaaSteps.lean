/-
  The steps of a walk by 'wpP' (Flex): one lemma for each kind of operation; what an operation yields is found by unification.
-/
import Derived.Test.YtokljdkeegdniaaFlex
import Derived.WalkKit
namespace Go.Proofs.Ytokljdkeegdniaa
open Go.RowKit
/-- append, by what it comes to. -/
theorem wpList_append_run {P : Program} {ops : Array Oper} {Q : Exit → Act → World → Prop} {a : Act} {w w' : World} {rest : List Oper} {o : Oper} {v' : Value} (hg : o.guard = none) (s x : Operand) (t : TypeId)
    (ho : o.op = .call { callee := .builtin .append, args := #[s, x], argTypes := #[t, t] }) (hr : (Builtin.append_ #[t, t] o.type #[a.eval s, a.eval x]).run P w = .ok v' w')
    (h : wpList P ops Q rest (a.put o.dst v') w') : wpList P ops Q (o :: rest) a w :=
  wpList_plain hg fun K hK => by
    unfold Oper.wp execOp
    simp only [ho, resolve, invoke, builtin, Sem.run_bind, Sem.run_pure, Result.andThen_ok, List.map_toArray, List.map_cons, List.map_nil, hr]
    exact hK _ _ h
theorem wpListIn_append_run {F : Fence} {n : Nat} (hF : WideF F) {P : Program} {ops : Array Oper} {Q : Exit → Act → World → Prop} {a : Act} {w w' : World} {rest : List Oper} {o : Oper} {v' : Value} (hg : o.guard = none) (s x : Operand) (t : TypeId)
    (ho : o.op = .call { callee := .builtin .append, args := #[s, x], argTypes := #[t, t] }) (hr : (Builtin.append_ #[t, t] o.type #[a.eval s, a.eval x]).run P w = .ok v' w')
    (h : wpListIn F n P ops Q rest (a.put o.dst v') w') : wpListIn F n P ops Q (o :: rest) a w :=
  wpListIn_plain hg fun K hK => by
    refine ⟨fun f _ => hF.fn f, ?_⟩
    rw [Oper.semAt_plain F _ _ (by rw [ho]; intro c hc; cases hc)]
    unfold execOp
    simp only [ho, resolve, invoke, builtin, Sem.run_bind, Sem.run_pure, Result.andThen_ok, List.map_toArray, List.map_cons, List.map_nil, hr]
    exact hK _ _ h
/-- Looking up in a written-out list, step by step. -/
def nth {α : Type} : List α → Nat → Option α
  | [], _ => none
  | a :: _, 0 => some a
  | _ :: l, k + 1 => nth l k
theorem nth_eq {α : Type} : ∀ (l : List α) (k : Nat), nth l k = l[k]?
  | [], _ => by simp [nth]
  | _ :: _, 0 => by simp [nth]
  | _ :: l, k + 1 => by simp [nth, nth_eq l k]
def boolAt (l : List Value) (b : Bool) : Option Nat → Bool
  | some d => match nth l d with
    | some (.bool x) => x == b
    | _ => false
  | none => false
/-- Is the operation carried out? -/
def gd (ol : List Oper) (l : List Value) : Option (Nat × Bool) → Bool
  | none => true
  | some (j, b) => boolAt l b ((nth ol j).bind (·.dst))
theorem wanted_gd (ol : List Oper) (l : List Value) (d : Option Tmp) (p : Op) (t : TypeId) (s : String) (af : Array Edge) (g : Option (Nat × Bool)) :
    Region.wanted ⟨d, p, t, s, af, g⟩ (yielded ol.toArray l.toArray) = gd ol l g := by
  cases g with
  | none => rfl
  | some jb =>
    obtain ⟨j, b⟩ := jb
    simp only [Region.wanted, gd, yielded, nth_eq, List.getElem?_toArray]
    cases (ol[j]?).bind (·.dst) with
    | none => rfl
    | some d' =>
      simp only [Option.bind_some, boolAt, nth_eq]
      rcases l[d']? with _ | v
      · rfl
      · cases v <;> first | rfl | (rename_i x; cases x <;> cases b <;> rfl)

namespace Fx
section
variable {P : Program} {ol : List Oper} {Q : Act → World → Prop} {i : Nat} {rest : List (Nat × Nat)} {C : World → Prop} {l l' : List Value} {D : List Deferred} {v u : Value}
  {d : Tmp} {od : Option Tmp} {p : Op} {t : TypeId} {s : String} {af : Array Edge} {g : Option (Nat × Bool)} {lab : Nat}

theorem done {a : Act} {ops : Array Oper} (h : ∀ w, C w → Q a w) : wpP P ops Q [] C a := ⟨h⟩

theorem getD_nth {o : Oper} (ho : nth ol i = some o) : ol.toArray.getD i default = o := by
  rw [nth_eq] at ho
  rw [Array.getD_eq_getD_getElem?, List.getElem?_toArray, ho]; rfl

theorem of_F {o : Oper} {a : Act} (ho : nth ol i = some o) (h : wpF P ol.toArray Q ((o, lab) :: pick ol.toArray rest) C a) : wpP P ol.toArray Q ((i, lab) :: rest) C a := by
  refine ⟨?_⟩
  unfold pick
  rw [List.map_cons]
  simp only [getD_nth ho]
  exact h
theorem lab0 {a : Act} {ops : Array Oper} (h : wpP P ops Q ((i, 0) :: rest) C a) : wpP P ops Q ((i, 0) :: rest) C a := h
theorem lab1 {a : Act} {ops : Array Oper} (h : wpP P ops Q ((i, 1) :: rest) C a) : wpP P ops Q ((i, 1) :: rest) C a := h

theorem put_lit : (Act.mk l.toArray D).put (some d) v = ⟨(l.set d v).toArray, D⟩ := by simp [Act.put]

theorem skip (ho : nth ol i = some ⟨some d, p, t, s, af, g⟩) (hw : gd ol l g = false) (ha : l.set d undef = l')
    (h : wpP P ol.toArray Q rest C ⟨l'.toArray, D⟩) : wpP P ol.toArray Q ((i, lab) :: rest) C ⟨l.toArray, D⟩ := by
  refine of_F ho ?_
  unfold wpF
  rw [if_neg (by rw [wanted_gd, hw]; exact Bool.false_ne_true), put_lit, ha]
  exact h.out

theorem pure_ (ho : nth ol i = some ⟨some d, p, t, s, af, g⟩) (hw : gd ol l g = true)
    (hr : ∀ w, (execOp (Act.mk l.toArray D).eval ⟨some d, p, t, s, af, g⟩).run P w = .ok (.value v) w) (ha : l.set d v = l')
    (h : wpP P ol.toArray Q rest C ⟨l'.toArray, D⟩) : wpP P ol.toArray Q ((i, 0) :: rest) C ⟨l.toArray, D⟩ := by
  refine of_F ho ?_
  unfold wpF
  rw [if_pos (by rw [wanted_gd, hw])]
  refine ⟨v, hr, ?_⟩
  rw [put_lit, ha]
  exact h.out

theorem moveT {k : Nat} (ho : nth ol i = some ⟨some d, .move (.tmp k), t, s, af, g⟩) (hw : gd ol l g = true)
    (hx : nth l k = some v) (ha : l.set d v = l') (h : wpP P ol.toArray Q rest C ⟨l'.toArray, D⟩) : wpP P ol.toArray Q ((i, 0) :: rest) C ⟨l.toArray, D⟩ :=
  pure_ ho hw (fun w => by rw [nth_eq] at hx; simp [execOp, Act.eval, hx]) ha h
theorem assignT {k : Nat} (ho : nth ol i = some ⟨some d, .assign (.tmp k), t, s, af, g⟩) (hw : gd ol l g = true)
    (hx : nth l k = some v) (ha : l.set d v = l') (h : wpP P ol.toArray Q rest C ⟨l'.toArray, D⟩) : wpP P ol.toArray Q ((i, 0) :: rest) C ⟨l.toArray, D⟩ :=
  pure_ ho hw (fun w => by rw [nth_eq] at hx; simp [execOp, Act.eval, hx]) ha h

/-- A look at the world that leaves it as it is. -/
theorem look (ho : nth ol i = some ⟨some d, p, t, s, af, g⟩) (hw : gd ol l g = true)
    (hr : ∀ w, C w → (execOp (Act.mk l.toArray D).eval ⟨some d, p, t, s, af, g⟩).run P w = .ok (.value v) w) (ha : l.set d v = l')
    (h : wpP P ol.toArray Q rest C ⟨l'.toArray, D⟩) : wpP P ol.toArray Q ((i, 1) :: rest) C ⟨l.toArray, D⟩ := by
  refine of_F ho ?_
  unfold wpF
  rw [if_pos (by rw [wanted_gd, hw])]
  refine ⟨v, fun w hc => ?_, ?_⟩
  · unfold stepAt; rw [hr w hc]; exact ⟨rfl, Ext.refl _⟩
  · rw [put_lit, ha]; exact h.out

/-- A call that yields one value and leaves what lay as it lay. -/
theorem call1 {f : Nat} {args : Array Value} (ho : nth ol i = some ⟨some d, p, t, s, af, g⟩) (hw : gd ol l g = true)
    (hr : ∀ w, (execOp (Act.mk l.toArray D).eval ⟨some d, p, t, s, af, g⟩).run P w = .ok (.enter f args) w)
    (hc : ∀ w, C w → Calls P f args w (fun e w' => e = .returned v ∧ Ext w w')) (ha : l.set d v = l')
    (h : wpP P ol.toArray Q rest C ⟨l'.toArray, D⟩) : wpP P ol.toArray Q ((i, 1) :: rest) C ⟨l.toArray, D⟩ := by
  refine of_F ho ?_
  unfold wpF
  rw [if_pos (by rw [wanted_gd, hw])]
  refine ⟨v, fun w hC => ?_, ?_⟩
  · unfold stepAt; rw [hr w]; exact (hc w hC).mono fun e w' ⟨he, hx⟩ => ⟨v, he, rfl, hx⟩
  · rw [put_lit, ha]; exact h.out

/-- An operation with a destination whose value is known by a property. -/
theorem mk (R : Value → World → Prop) (hst : ∀ v, StableF (R v)) (ho : nth ol i = some ⟨some d, p, t, s, af, g⟩) (hw : gd ol l g = true)
    (hr : ∀ w, C w → stepAt P ⟨some d, p, t, s, af, g⟩ ⟨l.toArray, D⟩ w (fun u w' => Ext w w' ∧ R u w'))
    (h : ∀ v, wpP P ol.toArray Q rest (fun w => C w ∧ R v w) ⟨(l.set d v).toArray, D⟩) : wpP P ol.toArray Q ((i, 2) :: rest) C ⟨l.toArray, D⟩ := by
  refine of_F ho ?_
  unfold wpF
  rw [if_pos (by rw [wanted_gd, hw])]
  refine ⟨Value, id, R, ⟨undef⟩, hst, fun w hC => stepAt_mono (hr w hC) (fun v w' hv => ⟨v, rfl, hv⟩), fun v => ?_⟩
  rw [put_lit]; exact (h v).out
/-- .. a fresh block: what it yields is its address. -/
theorem mkPtr (R : Nat → World → Prop) (hst : ∀ b, StableF (R b)) (ho : nth ol i = some ⟨some d, p, t, s, af, g⟩) (hw : gd ol l g = true)
    (hr : ∀ w, C w → stepAt P ⟨some d, p, t, s, af, g⟩ ⟨l.toArray, D⟩ w (fun u w' => ∃ b, u = .pointer (some ⟨b, 0, none⟩) ∧ Ext w w' ∧ R b w'))
    (h : ∀ b, wpP P ol.toArray Q rest (fun w => C w ∧ R b w) ⟨(l.set d (.pointer (some ⟨b, 0, none⟩))).toArray, D⟩) : wpP P ol.toArray Q ((i, 2) :: rest) C ⟨l.toArray, D⟩ := by
  refine of_F ho ?_
  unfold wpF
  rw [if_pos (by rw [wanted_gd, hw])]
  refine ⟨Nat, fun b => .pointer (some ⟨b, 0, none⟩), R, ⟨0⟩, hst, hr, fun b => ?_⟩
  rw [put_lit]; exact (h b).out
/-- .. a slice at the head of a fresh block. -/
theorem mkSl (n cap : Nat) (R : Nat → World → Prop) (hst : ∀ b, StableF (R b)) (ho : nth ol i = some ⟨some d, p, t, s, af, g⟩) (hw : gd ol l g = true)
    (hr : ∀ w, C w → stepAt P ⟨some d, p, t, s, af, g⟩ ⟨l.toArray, D⟩ w (fun u w' => ∃ b, u = .slice (some ⟨b, 0, none⟩) n cap ∧ Ext w w' ∧ R b w'))
    (h : ∀ b, wpP P ol.toArray Q rest (fun w => C w ∧ R b w) ⟨(l.set d (.slice (some ⟨b, 0, none⟩) n cap)).toArray, D⟩) : wpP P ol.toArray Q ((i, 2) :: rest) C ⟨l.toArray, D⟩ := by
  refine of_F ho ?_
  unfold wpF
  rw [if_pos (by rw [wanted_gd, hw])]
  refine ⟨Nat, fun b => .slice (some ⟨b, 0, none⟩) n cap, R, ⟨0⟩, hst, hr, fun b => ?_⟩
  rw [put_lit]; exact (h b).out
theorem eff (R : Value → World → Prop) (hst : ∀ v, StableF (R v)) (ho : nth ol i = some ⟨some d, p, t, s, af, g⟩) (hw : gd ol l g = true)
    (hr : ∀ w, C w → stepAt P ⟨some d, p, t, s, af, g⟩ ⟨l.toArray, D⟩ w R)
    (h : ∀ v, wpP P ol.toArray Q rest (R v) ⟨(l.set d v).toArray, D⟩) : wpP P ol.toArray Q ((i, 3) :: rest) C ⟨l.toArray, D⟩ := by
  refine of_F ho ?_
  unfold wpF
  rw [if_pos (by rw [wanted_gd, hw])]
  refine ⟨Value, id, R, ⟨undef⟩, hst, fun w hC => stepAt_mono (hr w hC) (fun v w' hv => ⟨v, rfl, hv⟩), fun v => ?_⟩
  rw [put_lit]; exact (h v).out
/-- A store and its like: no destination. -/
theorem eff0 (R : World → Prop) (hst : StableF R) (ho : nth ol i = some ⟨none, p, t, s, af, g⟩) (hw : gd ol l g = true)
    (hr : ∀ w, C w → stepAt P ⟨none, p, t, s, af, g⟩ ⟨l.toArray, D⟩ w (fun _ => R))
    (h : wpP P ol.toArray Q rest R ⟨l.toArray, D⟩) : wpP P ol.toArray Q ((i, 3) :: rest) C ⟨l.toArray, D⟩ := by
  refine of_F ho ?_
  unfold wpF
  rw [if_pos (by rw [wanted_gd, hw])]
  exact ⟨Value, id, fun _ => R, ⟨undef⟩, fun _ => hst, fun w hC => stepAt_mono (hr w hC) (fun v w' hv => ⟨v, rfl, hv⟩), fun v => h.out⟩
/-- A store of one cell. -/
theorem store (q : Addr) (u : Value) (ho : nth ol i = some ⟨none, p, t, s, af, g⟩) (hw : gd ol l g = true)
    (hr : ∀ w, C w → (execOp (Act.mk l.toArray D).eval ⟨none, p, t, s, af, g⟩).run P w = .ok .skip (w.setCell q u))
    (h : wpP P ol.toArray Q rest (fun w'' => ∃ w', C w' ∧ Ext (w'.setCell q u) w'') ⟨l.toArray, D⟩) : wpP P ol.toArray Q ((i, 3) :: rest) C ⟨l.toArray, D⟩ :=
  eff0 _ (fun _ _ h k => let ⟨w', h1, h2⟩ := h; ⟨w', h1, h2.trans k⟩) ho hw (fun w hC => by unfold stepAt; rw [hr w hC]; exact ⟨w, hC, Ext.refl _⟩) h
end
end Fx
end Go.Proofs.Ytokljdkeegdniaa
