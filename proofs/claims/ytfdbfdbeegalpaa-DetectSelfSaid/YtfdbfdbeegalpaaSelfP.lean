/-
  rostrum/rostrumlaw07.DetectSelf: the statement, for all its arguments.
-/
import Derived.Test.YtfdbfdbeegalpaaSelf
import Derived.Test.YtfdbfdbeegalpaaOpenD
import Derived.Test.YtfdbfdbeegalpaaRows
import Derived.WalkKit
import Derived.ProofKit
namespace Go.Proofs.Ytfdbfdbeegalpaa.detectSelf
open Go.ChangeShapes Go.WideShapes Go.ChangeAt Go.RowKit

theorem own : ownKnob Try.prog.godebug = none := by kernel_rfl
def typesL : List TypeId := [36, 40, 4, 3, 22, 35]

set_option maxRecDepth 100000 in
theorem lifted (os : Os) (started : os.Started) (H : Type) (enc : TypeId × Value → H) :
    ReturnsInHanded {} Try.checked os 4 .any (Rows.detectSelfSpec.pre6 enc Try.prog Try.f4 Rows.detectSelfRow.domain false) (Rows.detectSelfSpec.post enc Try.prog Try.f4 false true false false) := by
  refine returnsInHanded_of_change (C := Try.checked) own started (by kernel_rfl) Try.func4
    (ChangeSpec.witness6 (enc := enc) (C := Try.checked) false ⟨#[], #[.int .i64 0, .int .i64 0, .agg #[.int .u64 0, .int .u64 0, .int .u64 0], .slice none 0 0], []⟩ 8 (by kernel_rfl) (by kernel_rfl) (by kernel_rfl) (by kernel_rfl)) ?_
  intro W base args ds gs before hval hW _ _
  have hW' := hW
  obtain ⟨p, q, hA0, hV, rfl, hfz, hnd⟩ := hW
  have hA : DataW.TrodAll enc Try.prog W 0 (fun _ => true) true Try.f4.params.toList args.toList ds p := hA0
  rw [Try.params4] at hA hval
  obtain ⟨v0, vs0, d0, ds0, p0, q0, hargs, rfl, rfl, h0, r0⟩ := trodAll_cons hA
  obtain ⟨v1, vs1, d1, ds1, p1, q1, rfl, rfl, rfl, h1, r1⟩ := trodAll_cons r0
  obtain ⟨v2, vs2, d2, ds2, p2, q2, rfl, rfl, rfl, h2, r2⟩ := trodAll_cons r1
  obtain ⟨v3, vs3, d3, ds3, p3, q3, rfl, rfl, rfl, h3, r3⟩ := trodAll_cons r2
  obtain ⟨rfl, rfl, rfl⟩ := trodAll_nil r3
  obtain rfl : args = #[v0, v1, v2, v3] := by cases args; simp_all
  obtain ⟨self, rfl, _, _, wf0⟩ := open_int Try.underlying3 (hval 0 _ v0 rfl rfl) h0
  obtain ⟨n, rfl, _, _, wf1⟩ := open_int Try.underlying3 (hval 1 _ v1 rfl rfl) h1
  obtain ⟨q, rfl, hw2⟩ := open_bt (hval 2 _ v2 rfl rfl) h2
  obtain ⟨l, hl3, hw3⟩ := open_acs (hval 3 _ v3 rfl rfl) h3
  obtain ⟨rfl, rfl⟩ := trodVars_none hV
  refine (self_at W self n q v3 l (bounds_i64 wf1) hw2.1 hw2.2.1 hw2.2.2 hl3 hw3).mono fun e W' ⟨he, hE⟩ => ?_
  subst he
  exact ⟨_, rfl, law_post (L := typesL) (tb := 4) hW' rfl (by kernel_rfl) (by rw [Try.params4]; decide) hE (by kernel_rfl) Try.underlying4 ⟨rfl, rfl, rfl⟩⟩

theorem proved : Rows.DetectSelfSaid :=
  OpenClaim.holds_of_wide 4 Try.f4 rfl rfl rfl rfl rfl rfl rfl ⟨rfl, rfl, rfl, rfl, rfl⟩ rfl rfl rfl rfl rfl (by kernel_rfl) Try.func4 (by kernel_rfl)
    (of_decide_eq_true (by kernel_rfl)) (by unfold Func.isWrapper; first | (rw [if_pos (by decide +kernel)]; kernel_rfl) | (rw [if_neg (by decide +kernel)]; exact ⟨rfl, rfl⟩))
    (fun os started H enc _ => lifted os started H enc)
end Go.Proofs.Ytfdbfdbeegalpaa.detectSelf
