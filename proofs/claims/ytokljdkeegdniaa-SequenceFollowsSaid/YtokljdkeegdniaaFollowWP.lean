/-
  rostrum/rostrumlaw11.SequenceFollows: the statement, for all its arguments.
-/
import Derived.Test.YtokljdkeegdniaaFollowW
import Derived.Test.YtokljdkeegdniaaOpenS
import Derived.Test.YtokljdkeegdniaaRows
import Derived.WalkKit
import Derived.ProofKit
namespace Go.Proofs.Ytokljdkeegdniaa.sequenceFollows
open Go.ChangeShapes Go.WideShapes Go.ChangeAt Go.RowKit

theorem own : ownKnob Try.prog.godebug = none := by kernel_rfl
def typesL : List TypeId := [22, 23, 38, 4, 36, 34, 32, 3, 9]

set_option maxRecDepth 100000 in
theorem lifted (os : Os) (started : os.Started) (H : Type) (enc : TypeId × Value → H) :
    ReturnsInHanded {} Try.checked os 3 .any (Rows.sequenceFollowsSpec.pre6 enc Try.prog Try.f3 Rows.sequenceFollowsRow.domain false) (Rows.sequenceFollowsSpec.post enc Try.prog Try.f3 false true false false) := by
  refine returnsInHanded_of_change (C := Try.checked) own started (by kernel_rfl) Try.func3
    (ChangeSpec.witness6 (enc := enc) (C := Try.checked) false ⟨#[], #[.int .u32 0, .slice none 0 0], []⟩ 8 (by kernel_rfl) (by kernel_rfl) (by kernel_rfl) (by kernel_rfl)) ?_
  intro W base args ds gs before hval hW _ _
  have hW' := hW
  obtain ⟨p, q, hA0, hV, rfl, hfz, hnd⟩ := hW
  have hA : DataW.TrodAll enc Try.prog W 0 (fun _ => true) true Try.f3.params.toList args.toList ds p := hA0
  rw [Try.params3] at hA hval
  obtain ⟨v0, vs0, d0, ds0, p0, q0, hargs, rfl, rfl, h0, r0⟩ := trodAll_cons hA
  obtain ⟨v1, vs1, d1, ds1, p1, q1, rfl, rfl, rfl, h1, r1⟩ := trodAll_cons r0
  obtain ⟨rfl, rfl, rfl⟩ := trodAll_nil r1
  obtain rfl : args = #[v0, v1] := by cases args; simp_all
  obtain ⟨e0, rfl, _, _, wf0⟩ := open_int Try.underlying22 (hval 0 _ v0 rfl rfl) h0
  obtain ⟨L, hl1, hw1⟩ := open_acl (hval 1 _ v1 rfl rfl) h1
  obtain ⟨rfl, rfl⟩ := trodVars_none hV
  refine (follows_law W e0 v1 L hl1).mono fun e W' ⟨he, hE⟩ => ?_
  subst he
  exact ⟨_, rfl, law_post (L := typesL) (tb := 4) hW' rfl (by kernel_rfl) (by rw [Try.params3]; decide) hE (by kernel_rfl) Try.underlying4 ⟨rfl, rfl, rfl⟩⟩

theorem proved : Rows.SequenceFollowsSaid :=
  OpenClaim.holds_of_wide 3 Try.f3 rfl rfl rfl rfl rfl rfl rfl ⟨rfl, rfl, rfl, rfl, rfl⟩ rfl rfl rfl rfl rfl (by kernel_rfl) Try.func3 (by kernel_rfl)
    (of_decide_eq_true (by kernel_rfl)) (by unfold Func.isWrapper; first | (rw [if_pos (by decide +kernel)]; kernel_rfl) | (rw [if_neg (by decide +kernel)]; exact ⟨rfl, rfl⟩))
    (fun os started H enc _ => lifted os started H enc)
end Go.Proofs.Ytokljdkeegdniaa.sequenceFollows
