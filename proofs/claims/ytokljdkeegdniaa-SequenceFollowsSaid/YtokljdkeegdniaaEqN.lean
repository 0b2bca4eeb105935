/-
  Numbered messages compared; a sequencer and a follower of the call's own.
-/
import Derived.Test.YtokljdkeegdniaaRecv
namespace Go.Proofs.Ytokljdkeegdniaa
open Go.RowKit
attribute [local go_sem] Oper.semAt_some

theorem Nb_eq (a b : Nb) : decide (a = b) = (a.e == b.e && (a.n == b.n && decide (a.m = b.m))) := by
  obtain ⟨e, n, m⟩ := a
  obtain ⟨e', n', m'⟩ := b
  by_cases h1 : e = e' <;> by_cases h2 : n = n' <;> by_cases h3 : m = m' <;> simp [h1, h2, h3]
set_option maxRecDepth 100000 in
theorem run_equalIn_Nb (n : Nat) (a b : Nb) (w : World) :
    (Op.equalIn (n + 4) 36 a.val b.val).run Try.prog w = .ok (decide (a = b)) w := by
  have hS : Try.prog.underlying 36 = some (.struct (Try.prog.fieldsOf 36)) := by kernel_rfl
  have hp : Try.prog.stoodInHeld 36 = false := by kernel_rfl
  have hm := run_equalIn_Ms n a.m b.m
  rw [Nb_eq]
  obtain ⟨e, k, f, c, d⟩ := a
  obtain ⟨e', k', f', c', d'⟩ := b
  simp only [Nb.val]
  simp only [Ms.val] at hm
  rw [run_equalIn_agg w (n + 3) 36 _ _ hS hp]
  clear hS
  simp only [Program.fieldsOf, Try.underlying36]
  obtain ⟨q, hq⟩ : ∃ q, decide ((⟨f, c, d⟩ : Ms) = ⟨f', c', d'⟩) = q := ⟨_, rfl⟩
  rw [hq] at hm ⊢
  go_simp
  by_cases h1 : e = e' <;> by_cases h2 : k = k' <;> cases q <;> simp [h1, h2]
theorem run_eql_Nb (a b : Nb) (w : World) : (binOp .eql 36 a.val b.val).run Try.prog w = .ok (.bool (decide (a = b))) w := by
  have := run_equalIn_Nb 9996 a b w
  unfold Nb.val at *
  rw [run_eql_struct, this]; rfl
theorem guard_Nb (op : BinOp) (x y : Operand) (a b : Nb) (w : World) : (eqGuard op 36 x y a.val b.val).run Try.prog w = .ok () w :=
  run_eqGuard_agg w op _ x y _ _ (by kernel_rfl)
theorem op_eql_Nb {ρ : Operand → Value} {d : Option Tmp} {x y : Operand} {u t : TypeId} {s : String} {af : Array Edge} {g : Option (Nat × Bool)} (a b : Nb) (hx : ρ x = a.val) (hy : ρ y = b.val) (w : World) :
    (execOp ρ ⟨d, .binOp .eql 36 x y u, t, s, af, g⟩).run Try.prog w = .ok (.value (.bool (decide (a = b)))) w := by
  simp only [execOp, hx, hy, Sem.run_bind, guard_Nb, run_eql_Nb, Result.andThen_ok]; rfl
theorem run_lit2 (m m2 : Ms) (w : World) {x x2 : Value} (hx : x = m.val) (hx2 : x2 = m2.val) : (Instr.buildSlice 40 2 #[(0, x), (1, x2)]).run Try.prog w = .ok (.slice (some ⟨w.heap.size, 0, none⟩) 2 2) (w.alloc (.cells #[.int .i64 m.f, .int .u32 m.c, .string m.d, .int .i64 m2.f, .int .u32 m2.c, .string m2.d] 34)) := by
  subst hx; subst hx2
  unfold Ms.val
  simp [go_sem, Try.zeroValue34, Try.sizeOf34, Instr.buildSlice, run_underlying Try.underlying40]
theorem stepAt_lit2 {a : Act} {d : Option Tmp} {t : TypeId} {s : String} {af : Array Edge} {g : Option (Nat × Bool)} {W w : World} {x x2 : Operand} (hC : Ext W w) (m m2 : Ms) (hx : a.eval x = m.val) (hx2 : a.eval x2 = m2.val) :
    stepAt Try.prog ⟨d, .buildSlice 40 2 #[(0, x), (1, x2)], t, s, af, g⟩ a w (fun u w' => ∃ b, u = .slice (some ⟨b, 0, none⟩) 2 2 ∧ Ext w w' ∧ MsL w' (.slice (some ⟨b, 0, none⟩) 2 2) [m, m2]) := by
  unfold stepAt
  simp only [execOp, Sem.run_bind, List.map_toArray, List.map_cons, List.map_nil, run_lit2 m m2 w hx hx2, Result.andThen_ok]
  exact ⟨_, rfl, Ext.alloc _ _, (Own.lit (enc := Ms.enc) Ms.len w [m, m2] (by unfold maxLen; simp) (by simp) (cs := m.enc ++ m2.enc) (by simp)).sl Ms.len⟩

namespace Fx
section
variable {P : Program} {ol : List Oper} {Q : Act → World → Prop} {i : Nat} {rest : List (Nat × Nat)} {C : World → Prop} {l l' : List Value} {D : List Deferred} {v u : Value}
  {d : Tmp} {od : Option Tmp} {p : Op} {t : TypeId} {s : String} {af : Array Edge} {g : Option (Nat × Bool)} {lab : Nat}
/-- A step that writes and yields a value known up to b. -/
theorem effBy {β : Type} (val : β → Value) (R : β → World → Prop) (hn : Nonempty β) (hst : ∀ b, StableF (R b)) (ho : nth ol i = some ⟨some d, p, t, s, af, g⟩) (hw : gd ol l g = true)
    (hr : ∀ w, C w → stepAt P ⟨some d, p, t, s, af, g⟩ ⟨l.toArray, D⟩ w (fun u' w' => ∃ b, u' = val b ∧ R b w'))
    (h : ∀ b, wpP P ol.toArray Q rest (R b) ⟨(l.set d (val b)).toArray, D⟩) : wpP P ol.toArray Q ((i, 3) :: rest) C ⟨l.toArray, D⟩ := by
  refine of_F ho ?_
  unfold wpF
  rw [if_pos (by rw [wanted_gd, hw])]
  refine ⟨β, val, R, hn, hst, fun w hC => hr w hC, fun b => ?_⟩
  rw [put_lit]; exact (h b).out
end
end Fx

/-- A sequencer of the call's own. -/
structure SqI (w2 : World) (b mn : Nat) (av : Value) (σ : SqSt) (w : World) : Prop where
  p : SqAt w b mn av σ
  ok : σ.Ok
  fr : ∀ x, FQ b mn av x → w2.heap.size ≤ x
  e : Ext w2 w
theorem SqI.ext' {w2 w w' : World} {b mn : Nat} {av : Value} {σ : SqSt} (h : SqI w2 b mn av σ w) (he : Ext w w') : SqI w2 b mn av σ w' := ⟨h.p.ext he, h.ok, h.fr, h.e.trans he⟩
theorem numS_ok {σ : SqSt} (h : σ.Ok) (hl : σ.all.length ≤ 999999) (m : Ms) : (numS σ m).Ok := by
  unfold numS
  cases hk : kfind (keyM m) σ.nm with
  | some n => exact h
  | none =>
    refine ⟨fun p hp => ?_, by simp; omega⟩
    simp only [List.length_append, List.length_cons, List.length_nil]
    rcases mem_kput hp with rfl | hp
    · simp only; omega
    · have := h.ix p hp; omega
theorem SqI.step {w2 w w' : World} {b mn : Nat} {av av' : Value} {σ σ' : SqSt} (h : SqI w2 b mn av σ w) (hp : SqAt w' b mn av' σ') (ho : σ'.Ok) (hm : Mods (FQ b mn av) w w') (ha : ∀ x, av'.ownBlock = some x → av.ownBlock = some x ∨ w.heap.size ≤ x) : SqI w2 b mn av' σ' w' :=
  ⟨hp, ho, fun x hx => by
    rcases hx with hx | hx | hx
    · exact h.fr x (.inl hx)
    · exact h.fr x (.inr (.inl hx))
    · rcases ha x hx with e | e
      · exact h.fr x (.inr (.inr e))
      · have := h.e.size; omega, ((h.e.mods _).trans hm (fun _ _ h => h)).ext_of (fun x hx e => by have := h.fr x e; omega)⟩
theorem SqI.new {w2 w : World} {b mn : Nat} {e : Int} (hp : SqAt w b mn (.slice none 0 0) (sq0 e)) (he : Ext w2 w) (h1 : w2.heap.size ≤ b) (h2 : w2.heap.size ≤ mn) : SqI w2 b mn (.slice none 0 0) (sq0 e) w :=
  ⟨hp, sq0_ok e, fun x hx => by rcases hx with rfl | rfl | hx; exact h1; exact h2; simp [Value.ownBlock] at hx, he⟩
/-- A follower of the call's own. -/
structure FwI (w2 : World) (b mw mb : Nat) (σ : FwSt) (w : World) : Prop where
  p : FwAt w b mw mb σ
  fr : ∀ x, FF b mw mb x → w2.heap.size ≤ x
  e : Ext w2 w
theorem FwI.ext' {w2 w w' : World} {b mw mb : Nat} {σ : FwSt} (h : FwI w2 b mw mb σ w) (he : Ext w w') : FwI w2 b mw mb σ w' := ⟨h.p.ext he, h.fr, h.e.trans he⟩
theorem FwI.step {w2 w w' : World} {b mw mb : Nat} {σ σ' : FwSt} (h : FwI w2 b mw mb σ w) (hp : FwAt w' b mw mb σ') (hm : Mods (FF b mw mb) w w') : FwI w2 b mw mb σ' w' :=
  ⟨hp, h.fr, ((h.e.mods _).trans hm (fun _ _ h => h)).ext_of (fun x hx e => by have := h.fr x e; omega)⟩
end Go.Proofs.Ytokljdkeegdniaa
