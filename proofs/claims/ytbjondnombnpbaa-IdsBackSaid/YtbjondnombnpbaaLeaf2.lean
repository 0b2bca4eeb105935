/-
  slices.Clone at messages.
-/
import Derived.Test.YtbjondnombnpbaaLeaf
namespace Go.Proofs.Ytbjondnombnpbaa
open Go.RowKit
/-! ### Clone -/
theorem infoMs : (Try.prog.info? 34).map (fun i => (i.zero, i.size, i.bytes)) = some (some (.agg #[.int .i64 0, .int .u32 0, .string ⟨#[]⟩]), 3, 32) := by kernel_rfl
abbrev OwnMs (w : World) (v : Value) (l : List Ms) : Prop := Own Ms.enc 3 34 w v l
theorem OwnMs.append {w : World} {v : Value} {l m : List Ms} {x : Value} {ty : TypeId} (h : OwnMs w v l) (hx : MsL w x m) (hlen : l.length + m.length ≤ 1073741824) :
    ∃ v' w', (Builtin.append_ #[22, 22] ty #[v, x]).run Try.prog w = .ok v' w' ∧ OwnMs w' v' (l ++ m) ∧ Mods (fun b => v.ownBlock = some b) w w' ∧
      (∀ b, v'.ownBlock = some b → v.ownBlock = some b ∨ w.heap.size ≤ b) := by
  obtain ⟨i0, hi, hz0, hz1, hz2⟩ := info_parts infoMs
  exact Own.append Ms.len Ms.one (by decide) Try.underlying22 hi hz0 hz1 rfl h hx hlen (by rw [hz2]; decide)

def CloneR (w : World) (l : List Ms) (e : Ending) (w' : World) : Prop := ∃ v', e = .returned v' ∧ OwnMs w' v' l ∧ Ext w w' ∧ ∀ b, v'.ownBlock = some b → w.heap.size ≤ b
theorem clone_ms (v : Value) (l : List Ms) (w : World) (hl : MsL w v l) (hlen : l.length ≤ 1073741824) :
    Calls Try.prog 27 #[v] w (CloneR w l) := by
  obtain ⟨A, cap, rfl, hc1, hc2⟩ := hl.val
  have hE := Lib.hid (Ext.alloc w (.cells #[] 34))
  have hemp : OwnMs (w.alloc (.cells #[] 34)) (.slice (some ⟨w.heap.size, 0, none⟩) 0 0) [] := Own.empty w
  obtain ⟨v', w1, hr, ho, hm, hb⟩ := hemp.append (ty := 22) (hl.ext hE.out) (by simpa using hlen)
  have hne : ∀ w, (binOp .eql 22 (.slice A l.length cap) (.slice none 0 0)).run Try.prog w = .ok (.bool A.isNone) w := fun w => by
    exact Lib.run_eql_slice_nil w _ _ _ _ _ _ _ Try.underlying22
  cases A with
  | none =>
    have hnil : l = [] := by
      obtain ⟨A', c', e, _, _, h⟩ := hl
      refine Classical.byContradiction fun hne => ?_
      obtain ⟨b, off, e2, _⟩ := h hne
      injection e with e
      rw [e2] at e; cases e
    clear hr ho hm hb hemp hl
    have Hn := Lib.hid hnil
    clear hnil
    have hne1 := hne
    simp only [Option.isNone_none] at hne1
    clear hne
    go_enter Try.func27, Try.ntmps27
    go_wp2
    go_ret
    refine ⟨.slice none 0 0, rfl, ?_, Ext.refl _, fun b hb => by simp [Value.ownBlock] at hb⟩
    rw [Hn.out]; exact Own.nil
  | some a =>
    have Ho := Lib.hid ho
    have Hm := Lib.hid hm
    have Hb := Lib.hid hb
    clear ho hm hb hemp hl
    have hne1 := hne
    simp only [Option.isNone_some] at hne1
    clear hne
    go_enter Try.func27, Try.ntmps27
    have Hr := Lib.hid hr
    clear hr
    go_wp2_with (at_builtin; refine wpList_append_run rfl _ _ _ rfl Hr.out ?_)
    go_ret
    refine ⟨v', rfl, by simpa using Ho.out, ?_, fun b hb => ?_⟩
    · have h1 := (hE.out.mods (fun b => w.heap.size = b)).trans Hm.out (fun x _ hx => by simpa [Value.ownBlock] using hx)
      exact h1.ext_of (fun x hx he => by omega)
    · rcases Hb.out b hb with h | h
      · simp [Value.ownBlock] at h; omega
      · simp at h; omega
end Go.Proofs.Ytbjondnombnpbaa
