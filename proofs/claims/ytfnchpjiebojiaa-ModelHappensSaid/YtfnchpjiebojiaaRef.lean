/-
  rostrumref16.Model in memory; New and Behind.
-/
import Derived.Test.YtfnchpjiebojiaaPlainHap
import Derived.Test.YtfnchpjiebojiaaFew
import Derived.Laws.MakeOwn
namespace Go.Proofs.Ytfnchpjiebojiaa
open Go.RowKit
attribute [local go_sem] Oper.semAt_some

def rF (av lv dv : Value) : Nat → Value := fun i => [av, lv, dv].getD i undef
structure RefAt (w : World) (rb db : Nat) (av lv : Value) (ρ : RSt) : Prop where
  obj : Obj_ w rb 3 (rF av lv (.slice (some ⟨db, 0, none⟩) ρ.n ρ.n))
  ds : Obj_ w db ρ.n (fun i => .int .i64 (ρ.D i))
  a : OwnMs w av ρ.A
  l : OwnMs w lv ρ.L
  d1 : rb ≠ db
  da : ∀ x, av.ownBlock = some x → x ≠ rb ∧ x ≠ db
  dl : ∀ x, lv.ownBlock = some x → x ≠ rb ∧ x ≠ db ∧ av.ownBlock ≠ some x
def FR (rb db : Nat) (av lv : Value) (x : Nat) : Prop := x = rb ∨ x = db ∨ av.ownBlock = some x ∨ lv.ownBlock = some x
theorem RefAt.mods {w w' : World} {rb db : Nat} {av lv : Value} {ρ : RSt} {S : Nat → Prop} (h : RefAt w rb db av lv ρ) (he : Mods S w w') (hS : ∀ x, FR rb db av lv x → ¬ S x) : RefAt w' rb db av lv ρ :=
  ⟨h.obj.mods he (hS _ (.inl rfl)), h.ds.mods he (hS _ (.inr (.inl rfl))), h.a.mods he (fun x hx => hS _ (.inr (.inr (.inl hx)))), h.l.mods he (fun x hx => hS _ (.inr (.inr (.inr hx)))), h.d1, h.da, h.dl⟩
theorem RefAt.ext {w w' : World} {rb db : Nat} {av lv : Value} {ρ : RSt} (h : RefAt w rb db av lv ρ) (he : Ext w w') : RefAt w' rb db av lv ρ := h.mods (he.mods (fun _ => False)) (fun _ _ h => h)
theorem RefAt.lt {w : World} {rb db : Nat} {av lv : Value} {ρ : RSt} (h : RefAt w rb db av lv ρ) {x : Nat} (hx : FR rb db av lv x) : x < w.heap.size := by
  rcases hx with rfl | rfl | hx | hx
  · exact h.obj.lt
  · exact h.ds.lt
  · exact h.a.lt hx
  · exact h.l.lt hx

theorem infoI : (Try.prog.info? 3).map (fun i => (i.zero, i.size, i.bytes)) = some (some (.int .i64 0), 1, 8) := by kernel_rfl
def RNewR (n : Nat) (w : World) (e : Ending) (w' : World) : Prop :=
  ∃ rb db, e = .returned (.tuple #[.pointer (some ⟨rb, 0, none⟩), .int .i64 0]) ∧ RefAt w' rb db (.slice none 0 0) (.slice none 0 0) (ref0 n) ∧ Ext w w' ∧ w.heap.size ≤ rb ∧ w.heap.size ≤ db
set_option maxRecDepth 100000 in
set_option maxHeartbeats 1600000 in
theorem rnew_yes (w : World) (n : Nat) (h1 : 1 ≤ n) (h16 : n ≤ 16) : Calls Try.prog 15 #[.int .i64 n] w (RNewR n w) := by
  obtain ⟨i0, hi, hz0, hz1, hz2⟩ := info_parts infoI
  have hmk := run_make (P := Try.prog) w 50 3 i0 _ Try.underlying50 hi hz0 .i64 .i64 n n (by omega) (by omega) (by rw [hz2]; omega) (by omega)
  rw [hz1] at hmk
  simp only [Int.toNat_natCast] at hmk
  have hsz : (madeCells (Value.int .i64 0).cells (n * 1)).size = n * 1 := size_madeCells _ _
  have hob := Obj_.new w 3 (madeCells (Value.int .i64 0).cells (n * 1)) (fun _ => .int .i64 ((0 : Nat) : Int)) (fun i hi => by
    rw [hsz] at hi
    have hi' : i < n := by omega
    unfold madeCells
    simp [hi', Value.cells, Nat.mod_one])
  rw [hsz] at hob
  generalize (Obj.cells (madeCells (Value.int .i64 0).cells (n * 1)) 3) = O at *
  have Hob := Lib.hid hob
  clear hob hsz hi hz0 hz1 hz2
  go_enter Try.func15, Try.ntmps15
  go_wp2
  go_ret2
  have hobj := Obj_.new (w.alloc O) 52 #[.slice none 0 0, .slice none 0 0, .slice (some ⟨w.heap.size, 0, none⟩) n n] (rF (.slice none 0 0) (.slice none 0 0) (.slice (some ⟨w.heap.size, 0, none⟩) n n)) (fun i hi => by
    simp at hi
    match i, hi with
    | 0, _ => rfl
    | 1, _ => rfl
    | 2, _ => rfl)
  have hE3 := Ext.alloc (w.alloc O) (.cells #[.slice none 0 0, .slice none 0 0, .slice (some ⟨w.heap.size, 0, none⟩) n n] 52)
  have hs3 : (w.alloc O).heap.size = w.heap.size + 1 := by simp
  rw [hs3] at hobj
  refine ⟨w.heap.size + 1, w.heap.size, rfl, ⟨hobj, ?_, Own.nil, Own.nil, by omega, fun x hx => by simp [Value.ownBlock] at hx, fun x hx => by simp [Value.ownBlock] at hx⟩, (Ext.alloc _ _).trans hE3, by omega, by omega⟩
  have := Hob.out.ext hE3
  rw [Nat.mul_one] at this
  exact this
theorem rnew_no (w : World) (n : Int) (h1 : ¬ (1 ≤ n ∧ n ≤ 16)) : Calls Try.prog 15 #[.int .i64 n] w (fun e w' => e = .returned (.tuple #[.pointer none, .int .i64 2]) ∧ w' = w) := by
  by_cases h : n < 1
  · go_enter Try.func15, Try.ntmps15
    go_wp2
    go_ret2
    exact ⟨rfl, rfl⟩
  · have h2 : 16 < n := by omega
    go_enter Try.func15, Try.ntmps15
    go_wp2
    go_ret2
    exact ⟨rfl, rfl⟩

def behV (ρ : RSt) (n : Int) : Int := if 0 ≤ n ∧ n < ρ.n then (ρ.L.length : Int) - ρ.D n.toNat else -1
set_option maxRecDepth 100000 in
set_option maxHeartbeats 1600000 in
theorem rbehind_at {w : World} {rb db : Nat} {av lv : Value} {ρ : RSt} (hM : RefAt w rb db av lv ρ) (hD : ∀ i, ρ.D i ≤ ρ.L.length) (hlen : ρ.L.length ≤ 1000000) (hn16 : ρ.n ≤ 16) (n : Int) :
    Calls Try.prog 19 #[.pointer (some ⟨rb, 0, none⟩), .int .i64 n] w fun e w' => e = .returned (.int .i64 (behV ρ n)) ∧ Ext w w' := by
  have c2 := hM.obj.cell 2 (by decide)
  have c1 := hM.obj.cell 1 (by decide)
  have lb := hM.obj.lt
  simp only [rF, List.getD_cons_zero, List.getD_cons_succ] at c1 c2
  obtain ⟨lA, lcap, rfl, -⟩ := hM.l.val
  by_cases h0 : n < 0
  · have e : behV ρ n = -1 := by unfold behV; rw [if_neg (by omega)]
    rw [e]
    clear hM hD hlen hn16 e
    go_enter Try.func19, Try.ntmps19
    go_wp2
    go_ret
    exact ⟨rfl, Ext.refl _⟩
  · obtain ⟨nd, rfl⟩ : ∃ nd : Nat, n = nd := ⟨n.toNat, by omega⟩
    by_cases hlt : nd < ρ.n
    · have e : behV ρ nd = (ρ.L.length : Int) - ρ.D nd := by unfold behV; rw [if_pos (by omega), Int.toNat_natCast]
      rw [e]
      have cd := hM.ds.cell nd hlt
      have ld := hM.ds.lt
      have hd := hD nd
      obtain ⟨q, hq⟩ : ∃ q, ρ.D nd = q := ⟨_, rfl⟩
      obtain ⟨LL, hLL⟩ : ∃ LL, ρ.L.length = LL := ⟨_, rfl⟩
      obtain ⟨N, hN⟩ : ∃ N, ρ.n = N := ⟨_, rfl⟩
      rw [hq] at cd hd ⊢
      rw [hLL] at hd hlen c1 ⊢
      rw [hN] at c2 hlt hn16
      have hsub : IntKind.i64.wrap ((LL : Int) - q) = (LL : Int) - q := IntWalk.i64_in _ ⟨by omega, by omega⟩
      have t1 : decide ((nd : Int) < 0) = false := by simp
      have t2 : decide ((N : Int) ≤ (nd : Int)) = false := by simp; omega
      have t3 : decide (N ≤ nd) = false := by simp; omega
      have hltI : (nd : Int) < N := by omega
      clear hM hD hq hLL hN e h0
      go_enter Try.func19, Try.ntmps19
      go_upto_region 3 with fail
      refine wp_region_plan [(0,0),(1,0),(2,0),(3,1),(4,0),(5,0),(6,0),(7,0),(8,1),(9,0),(10,0),(11,1),(12,0),(13,0)] (by kernel_rfl) (by kernel_rfl) (by kernel_rfl) (Ext w) (fun _ _ h k => h.trans k) (Ext.drawn _ _) ?_
      iterate 14
        first
          | refine Fx.skip rfl rfl (by simp only [List.set_cons_zero, List.set_cons_succ]; rfl) ?_
          | (with_reducible refine Fx.lab0 ?_
             first
               | refine Fx.moveT rfl rfl rfl (by simp only [List.set_cons_zero, List.set_cons_succ]; rfl) ?_
               | refine Fx.assignT rfl rfl rfl (by simp only [List.set_cons_zero, List.set_cons_succ]; rfl) ?_
               | refine Fx.pure_ rfl rfl (fun _ => by go_simp; first | done | rfl) (by simp only [List.set_cons_zero, List.set_cons_succ]; rfl) ?_)
          | (with_reducible refine Fx.lab1 ?_
             refine Fx.look rfl rfl (fun w' hC => by obtain ⟨hc, hf, hl⟩ := Ext.cells hC; go_simp; rfl) (by simp only [List.set_cons_zero, List.set_cons_succ]; rfl) ?_)
      refine Fx.done (fun w1 hC => ?_)
      go_wp2
      go_ret
      exact ⟨rfl, hC⟩
    · have e : behV ρ nd = -1 := by unfold behV; rw [if_neg (by omega)]
      rw [e]
      obtain ⟨N, hN⟩ : ∃ N, ρ.n = N := ⟨_, rfl⟩
      rw [hN] at c2 hlt
      have hge : (N : Int) ≤ (nd : Int) := by omega
      clear hM hD hlen hn16 e hN h0
      go_enter Try.func19, Try.ntmps19
      go_wp2
      go_ret
      exact ⟨rfl, Ext.refl _⟩
end Go.Proofs.Ytfnchpjiebojiaa
