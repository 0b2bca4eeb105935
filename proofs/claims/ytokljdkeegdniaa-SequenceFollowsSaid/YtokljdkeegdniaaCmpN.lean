/-
  sequence.Follower.release's comparing function.
-/
import Derived.Test.YtokljdkeegdniaaRecv2
import Derived.Test.YtokljdkeegdniaaSortG
import Derived.Test.YtokljdkeegdniaaCmpU
namespace Go.Proofs.Ytokljdkeegdniaa
open Go.RowKit Go.Sort
attribute [local go_sem] Oper.semAt_some

def cmpN (x y : Nb) : Int := cmpI x.n y.n
theorem ltOf_cmpN (x y : Nb) : ltOf cmpN x y = decide (x.n < y.n) := by
  unfold ltOf cmpN cmpI
  by_cases h : x.n < y.n
  · simp [h]
  · by_cases h2 : y.n < x.n <;> simp [h, h2]
theorem swoN : SWO (ltOf cmpN) where
  irrefl x := by rw [ltOf_cmpN]; simp
  trans x y z h1 h2 := by rw [ltOf_cmpN] at *; simp at *; omega
  ntrans x y z h1 h2 := by rw [ltOf_cmpN] at *; simp at *; omega
instance : Inhabited Nb := ⟨nb0⟩
set_option maxRecDepth 100000 in
set_option maxHeartbeats 1600000 in
theorem cmp_atN : CmpAt Try.prog 39 Nb.enc cmpN := by
  intro x y w
  have hG1 := (Grew.refl w).alloc (.cells #[.int .u32 x.e, .int .u32 x.n, .int .i64 x.m.f, .int .u32 x.m.c, .string x.m.d] 36)
  obtain ⟨w1, hw1⟩ : ∃ w1, w.alloc (.cells #[.int .u32 x.e, .int .u32 x.n, .int .i64 x.m.f, .int .u32 x.m.c, .string x.m.d] 36) = w1 := ⟨_, rfl⟩
  have bx := box_Nb w x
  have by_ := box_Nb w1 y
  have hs1 : w1.heap.size = w.heap.size + 1 := by rw [← hw1]; simp
  have hE1 := Ext.alloc w1 (.cells #[.int .u32 y.e, .int .u32 y.n, .int .i64 y.m.f, .int .u32 y.m.c, .string y.m.d] 36)
  rw [hw1] at bx hG1
  have hG2 := hG1.alloc (.cells #[.int .u32 y.e, .int .u32 y.n, .int .i64 y.m.f, .int .u32 y.m.c, .string y.m.d] 36)
  have x1 := (bx.ext hE1).nb.c1
  have y1 := by_.nb.c1
  rw [hs1] at y1
  simp only [Nat.zero_add] at x1 y1
  have HG := Lib.hid hG2
  have hr : cmpN x y = cmpI x.n y.n := rfl
  have Hr := Lib.hid hr
  have C1 := Lib.hid (fun w' => cmp_u32 x.n y.n w')
  clear bx by_ hE1 hG1 hG2 hr
  generalize cmpI x.n y.n = r1 at *
  show Calls Try.prog 39 #[.agg #[.int .u32 x.e, .int .u32 x.n, .int .i64 x.m.f, .int .u32 x.m.c, .string x.m.d], .agg #[.int .u32 y.e, .int .u32 y.n, .int .i64 y.m.f, .int .u32 y.m.c, .string y.m.d]] w _
  go_enter Try.func39, Try.ntmps39
  go_upto_region 1 with fail
  rw [hw1] at *
  rw [hs1] at *
  generalize hW : w1.alloc (.cells #[.int .u32 y.e, .int .u32 y.n, .int .i64 y.m.f, .int .u32 y.m.c, .string y.m.d] 36) = W at *
  go_wp2_with (go_at_call 40; refine (C1.out _).mono ?_; rintro e w' ⟨rfl, rfl⟩)
  go_ret
  exact ⟨by rw [Hr.out]; rfl, HG.out⟩
end Go.Proofs.Ytokljdkeegdniaa
