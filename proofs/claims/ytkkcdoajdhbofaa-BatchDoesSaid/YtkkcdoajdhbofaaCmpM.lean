/-
  The order of messages: by From, then by Count.
-/
import Derived.Test.YtkkcdoajdhbofaaCmpI
import Derived.Test.YtkkcdoajdhbofaaSortG
namespace Go.Proofs.Ytkkcdoajdhbofaa
open Go.RowKit Go.Sort

def cmpM (x y : Ms) : Int := if cmpI x.f y.f = 0 then cmpI x.c y.c else cmpI x.f y.f
def ltM (x y : Ms) : Bool := decide (x.f < y.f ∨ x.f = y.f ∧ x.c < y.c)
theorem ltOf_cmpM (x y : Ms) : ltOf cmpM x y = ltM x y := by
  unfold ltOf cmpM cmpI ltM
  by_cases h1 : x.f < y.f
  · simp [h1]
  · by_cases h2 : y.f < x.f
    · simp [h1, h2]; omega
    · have h3 : x.f = y.f := by omega
      by_cases h4 : x.c < y.c
      · simp [h3, h4]
      · by_cases h5 : y.c < x.c <;> simp [h3, h4, h5]
theorem swoM : SWO (ltOf cmpM) where
  irrefl x := by rw [ltOf_cmpM]; unfold ltM; simp
  trans x y z h1 h2 := by rw [ltOf_cmpM] at *; unfold ltM at *; simp at *; omega
  ntrans x y z h1 h2 := by rw [ltOf_cmpM] at *; unfold ltM at *; simp at *; omega
instance : Inhabited Ms := ⟨⟨0, 0, ⟨#[]⟩⟩⟩
theorem run_ints2 (x y : Int) (w : World) : (Instr.buildSlice 91 2 #[(0, .int .i64 x), (1, .int .i64 y)]).run Try.prog w = .ok (.slice (some ⟨w.heap.size, 0, none⟩) 2 2) (w.alloc (.cells #[.int .i64 x, .int .i64 y] 3)) := by
  simp [go_sem, Try.zeroValue3, Try.sizeOf3, Instr.buildSlice, run_underlying Try.underlying91]
theorem stepAt_ints2 {a : Act} {d : Option Tmp} {t : TypeId} {s : String} {af : Array Edge} {g : Option (Nat × Bool)} {W w : World} {p q : Operand} {x y : Int} (hC : Grew W w) (hp : a.eval p = .int .i64 x) (hq : a.eval q = .int .i64 y) :
    stepAt Try.prog ⟨d, .buildSlice 91 2 #[(0, p), (1, q)], t, s, af, g⟩ a w (fun u w' => ∃ b, u = .slice (some ⟨b, 0, none⟩) 2 2 ∧ Grew W w' ∧ (b < w'.heap.size ∧ w'.cell? ⟨b, 0, none⟩ = some (.int .i64 x) ∧ w'.cell? ⟨b, 1, none⟩ = some (.int .i64 y))) := by
  unfold stepAt
  simp only [execOp, Sem.run_bind, List.map_toArray, List.map_cons, List.map_nil, hp, hq, run_ints2, Result.andThen_ok]
  have h := Obj_.new w 3 #[.int .i64 x, .int .i64 y] (fun i => [Value.int .i64 x, .int .i64 y].getD i undef) (fun i hi => by
    simp at hi
    match i, hi with
    | 0, _ => rfl
    | 1, _ => rfl)
  exact ⟨_, rfl, hC.alloc _, h.lt, h.cell 0 (by simp), h.cell 1 (by simp)⟩
end Go.Proofs.Ytkkcdoajdhbofaa
