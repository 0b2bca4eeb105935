/-
  detect.Detector: each, as an iterator's contract.
-/
import Derived.Test.YtfdbfdbeegalpaaOpsD
import Derived.Test.YtfdbfdbeegalpaaRange2
import Derived.TacticsInMore
import Derived.LoopNIn
import Derived.LoopIn
import Derived.Sort.CutIn
import Derived.Shelf.Abstract
namespace Go.Proofs.Ytfdbfdbeegalpaa
open Go.RowKit
attribute [local go_sem] Oper.semAt_some

theorem callFunc_at (f : FuncId) (hf : Try.prog.funcs[f]?.map (fun x => x.body.isSome && !(x.name == "runtime.NumGoroutine")) = some true) (args : Array Value) (w : World) : (callFunc f args).run Try.prog w = .ok (.enter f args) w := by
  cases hp : Try.prog.funcs[f]? with
  | none => rw [hp] at hf; cases hf
  | some fn =>
    rw [hp] at hf
    simp only [Option.map_some, Option.some.injEq, Bool.and_eq_true, Bool.not_eq_true'] at hf
    obtain ⟨c, hc⟩ := Option.isSome_iff_exists.1 hf.1
    exact Go.Proofs.enters_of hp hf.2 hc args w
theorem each_at (w : World) (b : Nat) : Calls Try.prog 20 #[.pointer (some ⟨b, 0, none⟩)] w fun e w' =>
    e = .returned (.func (.func 23) #[] #[.pointer (some ⟨w.heap.size, 0, none⟩)]) ∧ w' = w.alloc (.cells #[.pointer (some ⟨b, 0, none⟩)] 24) := by
  go_enter Try.func20, Try.ntmps20
  go_wp2
  go_ret
  exact ⟨rfl, rfl⟩
theorem box_ptr (w : World) (b : Nat) (t : TypeId) : Obj_ (w.alloc (.cells #[.pointer (some ⟨b, 0, none⟩)] t)) w.heap.size 1 (fun _ => .pointer (some ⟨b, 0, none⟩)) :=
  Obj_.new w t #[.pointer (some ⟨b, 0, none⟩)] _ (by intro i hi; simp at hi; subst hi; rfl)

set_option maxRecDepth 100000 in
set_option maxHeartbeats 1600000 in
theorem each_iter {F : Fence} (hF : WideF F) (hro : F.round = none) (n : Nat) (I : Nat → World → Prop) (b mb Bq : Nat) (σ : DSt) (hn16 : σ.n ≤ 16) (hI : ∀ k W, I k W → W.cell? ⟨Bq, 0, none⟩ = some (.pointer (some ⟨b, 0, none⟩)) ∧ DetAt W b mb σ) (W : World) :
    IterG F n Try.prog 23 #[.pointer (some ⟨Bq, 0, none⟩)] (fun k => #[.int .i64 k, (σ.nd k).val]) σ.n I W := by
  intro q J Jx hJ hJx hJI hY h0
  have HY := Lib.hid hY
  have HJ := Lib.hid hJ
  have HJI := Lib.hid hJI
  have HI := Lib.hid hI
  obtain ⟨cq, hD⟩ := hI 0 W (hJI 0 W h0)
  obtain ⟨c0, c1, c2, c3, c4, c5, c6, fb, lb, lm⟩ := hD.cells
  have H0 := Lib.hid h0
  clear hY hJ hJI hI h0 hD c0 c2 c3 c4 c5 c6 fb lm hJx
  refine callsIn_of_wp Try.func23 rfl (hF.fn _) ?_ hro
  simp only [Try.ntmps23, List.size_toArray, List.length_cons, List.length_nil, Nat.reduceAdd, Nat.reduceSub, Array.replicate_succ, Array.replicate_zero, List.push_toArray, List.append_toArray, List.nil_append, List.cons_append]
  gi_wp2
  clear cq c1 lb
  gi_loopw [8] (fun i wr => ∃ k : Nat, k ≤ σ.n ∧ i = .int .i64 k ∧ Hid (J k wr)) (fun i _ => σ.n - (intOf i).toNat)
  case atStart => exact ⟨0, Nat.zero_le _, rfl, H0⟩
  case round =>
    obtain ⟨k, hk, rfl, hJk⟩ := hrel
    have hwk : IntKind.i64.wrap ((k : Int) + 1) = (k : Int) + 1 := IntWalk.i64_in _ ⟨by omega, by omega⟩
    by_cases hlt : k < σ.n
    · obtain ⟨cq, hD⟩ := HI.out k wr (HJI.out _ _ hJk.out)
      obtain ⟨c0, c1, c2, c3, c4, c5, c6, fb, lb, lm⟩ := hD.cells
      have hlk := hD.map.look keysInt Try.underlying49 (zeroNd wr) false (k : Int)
      have hnd : (if 0 ≤ (k : Int) ∧ (k : Int) < σ.n then σ.nd (k : Int).toNat else nd0) = σ.nd k := by rw [if_pos (by omega), Int.toNat_natCast]
      rw [look_nd, hnd] at hlk
      simp only [Bool.false_eq_true, if_false] at hlk
      clear hnd
      obtain ⟨fn, tmps, assign, body, hy, hR⟩ := HY.out k wr hlt hJk.out
      obtain ⟨x, hx⟩ : ∃ x, (σ.nd k).val = x := ⟨_, rfl⟩
      rw [hx] at hlk hy
      clear hx c0 c1 c2 c3 c4 c5 fb lm hD
      gi_wp2
      refine ⟨(fun hs => by (rw [hF.depth] at hs; cases hs)), hR.mono ?_⟩
      rintro e W' (⟨rfl, hJ'⟩ | ⟨rfl, hJ'⟩)
      · have H' := Lib.hid hJ'
        clear hJ' hR hy hlk
        gi_wp2
        go_roundw
        case rel => exact ⟨k + 1, by omega, by go_num, H'⟩
        case measure => simp [intOf]; omega
      · have H' := Lib.hid hJ'
        clear hJ' hR hy hlk
        gi_wp2
        refine bodyPost_ret (results_none rfl _ _ _) rfl ?_
        exact ⟨⟨_, rfl⟩, .inr ⟨k + 1, by omega, H'.out⟩⟩
    · gi_wp2
      go_end0
      have hkl : k = σ.n := by omega
      subst hkl
      exact ⟨⟨_, rfl⟩, .inl hJk.out⟩
end Go.Proofs.Ytfdbfdbeegalpaa
