/-
  model.New.
-/
import Derived.Test.YtfnchpjiebojiaaValues
import Derived.Laws.MakeOwn
namespace Go.Proofs.Ytfnchpjiebojiaa
open Go.RowKit

theorem infoSeat : (Try.prog.info? 74).map (fun i => (i.zero, i.size, i.bytes)) = some (some (.agg #[.int .u32 0, .int .i64 0]), 2, 16) := by kernel_rfl
def st0 (n : Nat) : MSt := ⟨n, fun _ => 0, fun _ => 0, fun _ => 0, [], []⟩
theorem st0_ok {n : Nat} (h1 : 1 ≤ n) (h2 : n ≤ 16) : (st0 n).Ok := ⟨h1, h2, by simp [st0], by simp [st0], by simp [st0], by simp [st0], by simp [st0], by simp [st0], by simp [st0]⟩

def NewR (n : Nat) (w : World) (e : Ending) (w' : World) : Prop :=
  ∃ b sb mb, e = .returned (.tuple #[.pointer (some ⟨b, 0, none⟩), .int .i64 0]) ∧ ModelAt w' b sb mb (.slice none 0 0) (st0 n) ∧ Ext w w' ∧ w.heap.size ≤ b ∧ w.heap.size ≤ sb ∧ w.heap.size ≤ mb

set_option maxRecDepth 100000 in
set_option maxHeartbeats 1600000 in
theorem new_yes (w : World) (n : Nat) (h1 : 1 ≤ n) (h16 : n ≤ 16) : Calls Try.prog 13 #[.int .i64 n] w (NewR n w) := by
  obtain ⟨i0, hi, hz0, hz1, hz2⟩ := info_parts infoSeat
  have hmk := run_make (P := Try.prog) w 62 74 i0 _ Try.underlying62 hi hz0 .i64 .i64 n n (by omega) (by omega) (by rw [hz2]; omega) (by omega)
  rw [hz1] at hmk
  simp only [Int.toNat_natCast] at hmk
  have hmm := @run_makeMap Try.prog
  have hsz : (madeCells (Value.agg #[.int .u32 0, .int .i64 0]).cells (n * 2)).size = n * 2 := size_madeCells _ _
  have hob := Obj_.new w 74 (madeCells (Value.agg #[.int .u32 0, .int .i64 0]).cells (n * 2)) (seatF (fun _ => 0) (fun _ => 0)) (fun i hi => by
    rw [hsz] at hi
    have h0 : i % 2 = 0 ∨ i % 2 = 1 := by omega
    unfold madeCells seatF
    rcases h0 with h0 | h0 <;> simp [hi, h0, Value.cells])
  rw [hsz] at hob
  generalize (Obj.cells (madeCells (Value.agg #[.int .u32 0, .int .i64 0]).cells (n * 2)) 74) = O at *
  have Hob := Lib.hid hob
  clear hob hsz hi hz0 hz1 hz2
  go_enter Try.func13, Try.ntmps13
  go_wp2
  go_ret2
  have hobj := Obj_.new ((w.alloc O).alloc (.map #[] 0)) 65 #[.slice (some ⟨w.heap.size, 0, none⟩) n n, .map (some (w.heap.size + 1)), .int .u32 0, .int .u32 0, .int .u32 0, .int .u32 0, .int .u32 0, .int .u32 0, .int .u32 0, .int .u32 0, .int .u32 0, .int .u32 0, .int .u32 0, .int .u32 0, .int .u32 0, .int .u32 0, .int .u32 0, .int .u32 0, .slice none 0 0]
    (modF (.slice (some ⟨w.heap.size, 0, none⟩) n n) (.map (some (w.heap.size + 1))) (.slice none 0 0) (fun _ => 0)) (fun i hi => by
      simp at hi
      match i, hi with
      | 0, _ => rfl
      | 1, _ => rfl
      | 2, _ => rfl
      | 3, _ => rfl
      | 4, _ => rfl
      | 5, _ => rfl
      | 6, _ => rfl
      | 7, _ => rfl
      | 8, _ => rfl
      | 9, _ => rfl
      | 10, _ => rfl
      | 11, _ => rfl
      | 12, _ => rfl
      | 13, _ => rfl
      | 14, _ => rfl
      | 15, _ => rfl
      | 16, _ => rfl
      | 17, _ => rfl
      | 18, _ => rfl
      | k + 19, h => exact absurd h (by omega))
  have hmap : MapIs ((w.alloc O).alloc (.map #[] 0)) (w.heap.size + 1) idV Ms.val [] := by
    have := MapIs.made (ek := idV) (ev := Ms.val) (w.alloc O)
    rwa [World.size_alloc] at this
  have hE3 := Ext.alloc ((w.alloc O).alloc (.map #[] 0)) (.cells #[.slice (some ⟨w.heap.size, 0, none⟩) n n, .map (some (w.heap.size + 1)), .int .u32 0, .int .u32 0, .int .u32 0, .int .u32 0, .int .u32 0, .int .u32 0, .int .u32 0, .int .u32 0, .int .u32 0, .int .u32 0, .int .u32 0, .int .u32 0, .int .u32 0, .int .u32 0, .int .u32 0, .int .u32 0, .slice none 0 0] 65)
  have hs3 : ((w.alloc O).alloc (.map #[] 0)).heap.size = w.heap.size + 1 + 1 := by simp
  rw [hs3] at hobj
  refine ⟨w.heap.size + 1 + 1, w.heap.size, w.heap.size + 1, rfl, ⟨hobj, ?_, hmap.ext hE3, Own.nil, by omega, by omega, by omega, fun x hx => by simp [Value.ownBlock] at hx⟩, ((Ext.alloc _ _).trans (Ext.alloc _ _)).trans hE3, by omega, by omega, by omega⟩
  have := Hob.out.ext ((Ext.alloc (w.alloc O) (.map #[] 0)).trans hE3)
  rw [Nat.mul_comm] at this
  exact this
theorem new_no (w : World) (n : Int) (h1 : ¬ (1 ≤ n ∧ n ≤ 16)) : Calls Try.prog 13 #[.int .i64 n] w (fun e w' => e = .returned (.tuple #[.pointer none, .int .i64 2]) ∧ w' = w) := by
  by_cases h : n < 1
  · go_enter Try.func13, Try.ntmps13
    go_wp2
    go_ret2
    exact ⟨rfl, rfl⟩
  · have h2 : 16 < n := by omega
    go_enter Try.func13, Try.ntmps13
    go_wp2
    go_ret2
    exact ⟨rfl, rfl⟩
end Go.Proofs.Ytfnchpjiebojiaa
