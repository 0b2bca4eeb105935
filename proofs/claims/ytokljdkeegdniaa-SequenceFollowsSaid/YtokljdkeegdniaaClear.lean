/-
  clear of a map.
-/
import Derived.Test.YtokljdkeegdniaaKeep
namespace Go.Proofs.Ytokljdkeegdniaa
open Go.RowKit
section
variable {K V : Type} [DecidableEq K] {P : Program} {t kt et : TypeId} {ek : K → Value} {ev : V → Value} {kv : List (K × V)} {w w' : World} {r : Nat}
omit [DecidableEq K] in
theorem MapIs.clear (h : MapIs w r ek ev kv) (ht : P.underlying t = some (.map kt et)) {ty : TypeId} :
    ∃ w', (Builtin.clear_ #[t] ty #[.map (some r)]).run P w = .ok (.tuple #[]) w' ∧ MapIs w' r ek ev ([] : List (K × V)) ∧ Mods (· = r) w w' := by
  have hlt := h.lt
  obtain ⟨es, clock, hb, hk, hv, hn, hc⟩ := h
  refine ⟨{ w with heap := w.heap.setIfInBounds r (.map #[] clock) }, ?_, ⟨#[], clock, heap_set _ _ _ hlt, rfl, rfl, by simp, by simp⟩, mods_set _ _ _⟩
  simp [Builtin.clear_, run_underlying ht, getObj, setObj, Sem.run, hb]
end
theorem stepAt_clear {a : Act} {d : Option Tmp} {q : Operand} {ty : TypeId} {s : String} {af : Array Edge} {g : Option (Nat × Bool)} {w : World} {r : Nat} {kv : List ((Int × Int) × Ms)} (h : MapIs w r plV Ms.val kv) (hq : a.eval q = .map (some r)) :
    stepAt Try.prog ⟨d, .call { callee := .builtin .clear, args := #[q], argTypes := #[69] }, ty, s, af, g⟩ a w (fun _ w' => MapIs w' r plV Ms.val ([] : List ((Int × Int) × Ms)) ∧ Mods (· = r) w w') := by
  obtain ⟨w', hr, h1, h2⟩ := h.clear Try.underlying69 (ty := ty)
  unfold stepAt
  simp only [execOp, resolve, invoke, builtin, Sem.run_bind, Sem.run_pure, Result.andThen_ok, List.map_toArray, List.map_cons, List.map_nil, hq, hr]
  exact ⟨h1, h2⟩
end Go.Proofs.Ytokljdkeegdniaa
