/-
  ids.Book in memory; New, Next, Has, wait, Log, and what they say of a nil book.
-/
import Derived.Test.YtbjondnombnpbaaPlainB
import Derived.Test.YtbjondnombnpbaaRange2
namespace Go.Proofs.Ytbjondnombnpbaa
open Go.RowKit

def bkF (lv mv : Value) (tk : Nat → Int) : Nat → Value := fun i => if i < 16 then .int .u32 (tk i) else if i = 16 then lv else mv
structure BookAt (w : World) (b mb : Nat) (lv : Value) (σ : BSt) : Prop where
  obj : Obj_ w b 18 (bkF lv (.map (some mb)) σ.tk)
  map : MapIs w mb idV Ms.val σ.wt
  log : OwnMs w lv σ.log
  d1 : b ≠ mb
  d4 : ∀ x, lv.ownBlock = some x → x ≠ b ∧ x ≠ mb
def FB (b mb : Nat) (lv : Value) (x : Nat) : Prop := x = b ∨ x = mb ∨ lv.ownBlock = some x
theorem BookAt.mods {w w' : World} {b mb : Nat} {lv : Value} {σ : BSt} {S : Nat → Prop} (h : BookAt w b mb lv σ) (he : Mods S w w') (hS : ∀ x, FB b mb lv x → ¬ S x) : BookAt w' b mb lv σ :=
  ⟨h.obj.mods he (hS _ (.inl rfl)), h.map.mods he (hS _ (.inr (.inl rfl))), h.log.mods he (fun x hx => hS _ (.inr (.inr hx))), h.d1, h.d4⟩
theorem BookAt.ext {w w' : World} {b mb : Nat} {lv : Value} {σ : BSt} (h : BookAt w b mb lv σ) (he : Ext w w') : BookAt w' b mb lv σ := h.mods (he.mods (fun _ => False)) (fun _ _ h => h)
theorem BookAt.lt {w : World} {b mb : Nat} {lv : Value} {σ : BSt} (h : BookAt w b mb lv σ) {x : Nat} (hx : FB b mb lv x) : x < w.heap.size := by
  rcases hx with rfl | rfl | hx
  · exact h.obj.lt
  · exact h.map.lt
  · exact h.log.lt hx
structure BookCells (w : World) (b mb : Nat) (lv : Value) (σ : BSt) : Prop where
  c16 : w.cell? ⟨b, 16, none⟩ = some lv
  c17 : w.cell? ⟨b, 17, none⟩ = some (.map (some mb))
  cl : ∀ k, k < 16 → w.cell? ⟨b, k, none⟩ = some (.int .u32 (σ.tk k))
  fb : ∀ o, w.frozen? ⟨b, o, none⟩ = false
  lb : b < w.heap.size
  lm : mb < w.heap.size
theorem BookAt.cells {w : World} {b mb : Nat} {lv : Value} {σ : BSt} (h : BookAt w b mb lv σ) : BookCells w b mb lv σ where
  c16 := h.obj.cell 16 (by omega)
  c17 := h.obj.cell 17 (by omega)
  cl k hk := by
    have := h.obj.cell k (by omega)
    rw [this]; unfold bkF; rw [if_pos hk]
  fb := h.obj.free
  lb := h.obj.lt
  lm := h.map.lt

/-! ### a nil book -/
theorem next_nil (w : World) (f : Int) : Calls Try.prog 15 #[.pointer none, .int .i64 f] w fun e w' => e = .returned (.int .u32 0) ∧ w' = w := by
  go_enter Try.func15, Try.ntmps15
  go_wp2
  go_ret
  exact ⟨rfl, rfl⟩
theorem has_nil (w : World) (f c : Int) : Calls Try.prog 16 #[.pointer none, .agg #[.int .i64 f, .int .u32 c]] w fun e w' => e = .returned (.bool false) ∧ Ext w w' := by
  have hE := Lib.hid (Ext.alloc w (.cells #[.int .i64 f, .int .u32 c] 32))
  go_enter Try.func16, Try.ntmps16
  go_wp2
  go_ret
  exact ⟨rfl, hE.out⟩
theorem log_nil (w : World) : Calls Try.prog 14 #[.pointer none] w fun e w' => e = .returned (.slice none 0 0) ∧ w' = w := by
  go_enter Try.func14, Try.ntmps14
  go_wp2
  go_ret
  exact ⟨rfl, rfl⟩

/-! ### New -/
def NewR (w : World) (e : Ending) (w' : World) : Prop :=
  ∃ b mb, e = .returned (.pointer (some ⟨b, 0, none⟩)) ∧ BookAt w' b mb (.slice none 0 0) b0 ∧ Ext w w' ∧ w.heap.size ≤ b ∧ w.heap.size ≤ mb
set_option maxRecDepth 100000 in
theorem new_at (w : World) : Calls Try.prog 12 #[] w (NewR w) := by
  have hmm := @run_makeMap Try.prog
  go_enter Try.func12, Try.ntmps12
  go_wp2
  go_ret
  have hobj := Obj_.new (w.alloc (.map #[] 0)) 52 #[.int .u32 0, .int .u32 0, .int .u32 0, .int .u32 0, .int .u32 0, .int .u32 0, .int .u32 0, .int .u32 0, .int .u32 0, .int .u32 0, .int .u32 0, .int .u32 0, .int .u32 0, .int .u32 0, .int .u32 0, .int .u32 0, .slice none 0 0, .map (some w.heap.size)]
    (bkF (.slice none 0 0) (.map (some w.heap.size)) (fun _ => 0)) (fun i hi => by
      simp at hi
      match i, hi with
      | 0, _ => rfl
      | 1, _ => rfl
      | 2, _ => rfl
      | 3, _ => rfl
      | 4, _ => rfl
      | 5, _ => rfl
      | 6, _ => rfl
      | 7, _ => rfl
      | 8, _ => rfl
      | 9, _ => rfl
      | 10, _ => rfl
      | 11, _ => rfl
      | 12, _ => rfl
      | 13, _ => rfl
      | 14, _ => rfl
      | 15, _ => rfl
      | 16, _ => rfl
      | 17, _ => rfl
      | k + 18, h => exact absurd h (by omega))
  have hmap : MapIs (w.alloc (.map #[] 0)) w.heap.size idV Ms.val [] := MapIs.made (ek := idV) (ev := Ms.val) w
  have hE3 := Ext.alloc (w.alloc (.map #[] 0)) (.cells #[.int .u32 0, .int .u32 0, .int .u32 0, .int .u32 0, .int .u32 0, .int .u32 0, .int .u32 0, .int .u32 0, .int .u32 0, .int .u32 0, .int .u32 0, .int .u32 0, .int .u32 0, .int .u32 0, .int .u32 0, .int .u32 0, .slice none 0 0, .map (some w.heap.size)] 52)
  have hs3 : (w.alloc (.map #[] 0)).heap.size = w.heap.size + 1 := by simp
  rw [hs3] at hobj
  exact ⟨w.heap.size + 1, w.heap.size, rfl, ⟨hobj, hmap.ext hE3, Own.nil, by omega, fun x hx => by simp [Value.ownBlock] at hx⟩, (Ext.alloc _ _).trans hE3, by omega, by omega⟩

/-! ### Next -/
set_option maxRecDepth 100000 in
theorem next_at {w : World} {b mb : Nat} {lv : Value} {σ : BSt} (hM : BookAt w b mb lv σ) (hO : σ.Ok) (f : Int) :
    Calls Try.prog 15 #[.pointer (some ⟨b, 0, none⟩), .int .i64 f] w fun e w' => e = .returned (.int .u32 (nextB σ f)) ∧ w' = w := by
  by_cases hf : 0 ≤ f ∧ f < 16
  · obtain ⟨k, rfl⟩ : ∃ k : Nat, f = k := ⟨f.toNat, by omega⟩
    have hk : k < 16 := by omega
    have hki : (k : Int) < 16 := by omega
    have hd : decide (0 ≤ (k : Int) ∧ (k : Int) < 16) = true := by simp; omega
    have Hd := Lib.hid hd
    have hN : nextB σ (k : Int) = σ.tk k + 1 := by unfold nextB; rw [if_pos hf, Int.toNat_natCast]
    have h0 := hO.tk0 k
    have h1 := hO.tk1 k
    obtain ⟨c16, c17, cl, fb, lb, lm⟩ := hM.cells
    replace cl := cl k hk
    rw [hN]
    generalize σ.tk k = q at *
    have hw : IntKind.u32.wrap (q + 1) = q + 1 := IntWalk.u32_in _ ⟨by omega, by omega⟩
    clear c16 c17 fb lm hM hO hf hd hN
    go_enter Try.func15, Try.ntmps15
    go_wp2_with (go_at_call 28; refine (isNode_ids _ _).mono ?_; rw [Hd.out]; rintro e w' ⟨rfl, rfl⟩)
    go_ret
    exact ⟨rfl, rfl⟩
  · have hd : decide (0 ≤ f ∧ f < 16) = false := by simpa using hf
    have Hd := Lib.hid hd
    have hN : nextB σ f = 0 := by unfold nextB; rw [if_neg hf]
    rw [hN]
    clear hd hN hf hM hO
    go_enter Try.func15, Try.ntmps15
    go_wp2_with (go_at_call 28; refine (isNode_ids _ _).mono ?_; rw [Hd.out]; rintro e w' ⟨rfl, rfl⟩)
    go_ret
    exact ⟨rfl, rfl⟩

/-! ### Log -/
theorem log_at {w : World} {b mb : Nat} {lv : Value} {σ : BSt} (hM : BookAt w b mb lv σ) (hlen : σ.log.length ≤ 1000000) : Calls Try.prog 14 #[.pointer (some ⟨b, 0, none⟩)] w (CloneR w σ.log) := by
  have hL := Lib.hid (hM.log.sl Ms.len)
  obtain ⟨c16, c17, cl, fb, lb, lm⟩ := hM.cells
  clear hM c17 cl fb lm
  have Hlen := Lib.hid hlen
  clear hlen
  go_enter Try.func14, Try.ntmps14
  go_wp2_with (go_at_call 27; refine (clone_ms _ σ.log _ hL.out (Nat.le_trans Hlen.out (by decide))).mono ?_; rintro e w' ⟨v', rfl, h⟩)
  go_ret
  exact ⟨v', rfl, h⟩
end Go.Proofs.Ytbjondnombnpbaa
