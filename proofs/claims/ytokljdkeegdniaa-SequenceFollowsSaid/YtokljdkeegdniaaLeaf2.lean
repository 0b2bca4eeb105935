/-
  Rows of messages.
-/
import Derived.Test.YtokljdkeegdniaaLeaf
namespace Go.Proofs.Ytokljdkeegdniaa
open Go.RowKit
theorem infoMs : (Try.prog.info? 34).map (fun i => (i.zero, i.size, i.bytes)) = some (some (.agg #[.int .i64 0, .int .u32 0, .string ⟨#[]⟩]), 3, 32) := by kernel_rfl
abbrev OwnMs (w : World) (v : Value) (l : List Ms) : Prop := Own Ms.enc 3 34 w v l
theorem OwnMs.append {w : World} {v : Value} {l m : List Ms} {x : Value} {ty : TypeId} (h : OwnMs w v l) (hx : MsL w x m) (hlen : l.length + m.length ≤ 1073741824) :
    ∃ v' w', (Builtin.append_ #[40, 40] ty #[v, x]).run Try.prog w = .ok v' w' ∧ OwnMs w' v' (l ++ m) ∧ Mods (fun b => v.ownBlock = some b) w w' ∧
      (∀ b, v'.ownBlock = some b → v.ownBlock = some b ∨ w.heap.size ≤ b) := by
  obtain ⟨i0, hi, hz0, hz1, hz2⟩ := info_parts infoMs
  exact Own.append Ms.len Ms.one (by decide) Try.underlying40 hi hz0 hz1 rfl h hx hlen (by rw [hz2]; decide)

end Go.Proofs.Ytokljdkeegdniaa
