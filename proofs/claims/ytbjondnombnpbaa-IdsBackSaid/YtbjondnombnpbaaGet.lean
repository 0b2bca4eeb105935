/-
  Bytes of a string as numbers; crc.each as an iterator.
-/
import Derived.Test.YtbjondnombnpbaaStr
import Derived.Test.YtbjondnombnpbaaVals
import Derived.Laws.BitsLemmas
import Derived.Laws.Strings3
namespace Go.Proofs.Ytbjondnombnpbaa
open Go.RowKit
attribute [local go_sem] Oper.semAt_some

def byteAt (t : ByteArray) (i : Nat) : Int := ((t.data.toList.getD i 0).toNat : Int)
theorem byteAt_get (t : ByteArray) (i : Nat) (h : i < t.size) : ((t[i]'h).toNat : Int) = byteAt t i := by
  unfold byteAt
  have h' : i < t.data.toList.length := h
  rw [List.getD_eq_getElem?_getD, List.getElem?_eq_getElem h']
  rfl
theorem byteAt_lt (t : ByteArray) (i : Nat) : 0 ≤ byteAt t i ∧ byteAt t i < 256 := by
  unfold byteAt
  have := (t.data.toList.getD i 0).toNat_lt
  omega
theorem run_idx (t : ByteArray) (i : Nat) (h : i < t.size) (w : World) : (Instr.index 9 (.string t) (.int .i64 i)).run Try.prog w = .ok (.int .u8 (byteAt t i)) w := by
  have h1 := run_index_string (P := Try.prog) w 9 t .i64 i Try.underlying9
  rw [dif_pos ⟨by omega, by omega⟩] at h1
  rw [h1, ← byteAt_get t i h]; rfl
theorem op_idx {ρ : Operand → Value} {d : Option Tmp} {x y : Operand} {t : TypeId} {s : String} {af : Array Edge} {g : Option (Nat × Bool)} (b : ByteArray) (i : Nat) (j : Int) (hx : ρ x = .string b) (hy : ρ y = .int .i64 j) (hj : j = i) (h : i < b.size) (w : World) :
    (execOp ρ ⟨d, .index 9 x y, t, s, af, g⟩).run Try.prog w = .ok (.value (.int .u8 (byteAt b i))) w := by
  subst hj
  simp only [execOp, hx, hy, Sem.run_bind, run_idx b i h, Result.andThen_ok]
  first | rfl | simp [Sem.run]
def accG (t : ByteArray) : Nat → Int
  | 0 => 0
  | k + 1 => accG t k + 256 ^ k * byteAt t k
def get4 (t : ByteArray) : Int := accG t 4
theorem get4_eq (t : ByteArray) : get4 t = byteAt t 0 + 256 * byteAt t 1 + 65536 * byteAt t 2 + 16777216 * byteAt t 3 := by
  simp [get4, accG]
theorem get4_lt (t : ByteArray) : 0 ≤ get4 t ∧ get4 t < 4294967296 := by
  have h0 := byteAt_lt t 0
  have h1 := byteAt_lt t 1
  have h2 := byteAt_lt t 2
  have h3 := byteAt_lt t 3
  rw [get4_eq]; omega
theorem or32 (i : Nat) (x y : Int) (h0 : 0 ≤ x) (h1 : x < 2 ^ i) (h2 : 0 ≤ y) (h3 : y < 4294967296) (h4 : y % 2 ^ i = 0) (hi : i ≤ 32) : bits .or .u32 x y = x + y := by
  have hc : bits .or .u32 x y = bits .or .u32 y x := by unfold bits; simp only [BitVec.or_comm]
  have hw : ∀ n : Int, 0 ≤ n → n < 2 ^ 32 → IntKind.u32.wrap n = n := fun n a b => by rw [IntKind.wrap_u32]; omega
  have hp : (2 : Int) ^ i ≤ 2 ^ 32 := by
    have := Nat.pow_le_pow_right (n := 2) (by decide) hi
    exact_mod_cast this
  rw [hc, bits_join .u32 32 (by decide) hw i y x h2 h4 (by simpa using h3) h0 h1 (by omega)]
  omega

theorem or4 {a b c d : Int} (ha : 0 ≤ a ∧ a < 256) (hb : 0 ≤ b ∧ b < 256) (hc : 0 ≤ c ∧ c < 256) (hd : 0 ≤ d ∧ d < 256) :
    bits .or .u32 (bits .or .u32 (bits .or .u32 (IntKind.u32.wrap a) (IntKind.u32.wrap (IntKind.u32.wrap b * 256))) (IntKind.u32.wrap (IntKind.u32.wrap c * 65536))) (IntKind.u32.wrap (IntKind.u32.wrap d * 16777216)) = a + 256 * b + 65536 * c + 16777216 * d := by
  have w : ∀ n : Int, 0 ≤ n → n < 4294967296 → IntKind.u32.wrap n = n := fun n h1 h2 => by rw [IntKind.wrap_u32]; omega
  rw [w a (by omega) (by omega), w b (by omega) (by omega), w c (by omega) (by omega), w d (by omega) (by omega), w (b * 256) (by omega) (by omega), w (c * 65536) (by omega) (by omega), w (d * 16777216) (by omega) (by omega)]
  rw [or32 8 a (b * 256) (by omega) (by omega) (by omega) (by omega) (by omega) (by decide), or32 16 (a + b * 256) (c * 65536) (by omega) (by omega) (by omega) (by omega) (by omega) (by decide), or32 24 _ (d * 16777216) (by omega) (by omega) (by omega) (by omega) (by omega) (by decide)]
  omega
def EachR (w : World) (t : ByteArray) (e : Ending) (w' : World) : Prop :=
  ∃ Bn, e = .returned (.func (.func 59) #[] #[.pointer (some ⟨Bn, 0, none⟩)]) ∧ Ext w w' ∧ w.heap.size ≤ Bn ∧ Obj_ w' Bn 1 (fun _ => .string t)
theorem each_at (w : World) (t : ByteArray) : Calls Try.prog 48 #[.string t] w (EachR w t) := by
  have o1 := Obj_.new w 9 #[.string t] (fun _ => .string t) (by intro i hi; simp at hi; subst hi; rfl)
  have E1 := Ext.alloc w (.cells #[.string t] 9)
  have O1 := Lib.hid o1
  have H1 := Lib.hid E1
  clear o1 E1
  go_enter Try.func48, Try.ntmps48
  go_wp2
  go_ret
  exact ⟨w.heap.size, rfl, H1.out, Nat.le_refl _, O1.out⟩

set_option maxRecDepth 100000 in
set_option maxHeartbeats 1600000 in
theorem each_iter {F : Fence} (hF : WideF F) (hro : F.round = none) (n : Nat) (I : Nat → World → Prop) (t : ByteArray) (Bn : Nat) (hlen : t.size ≤ 100000) (hI : ∀ k W, I k W → W.cell? ⟨Bn, 0, none⟩ = some (.string t)) (W : World) :
    IterG F n Try.prog 59 #[.pointer (some ⟨Bn, 0, none⟩)] (fun k => #[.int .i64 k, .int .u8 (byteAt t k)]) t.size I W := by
  intro q J Jx hJ hJx hJI hY h0
  have HY := Lib.hid hY
  have HJ := Lib.hid hJ
  have HJI := Lib.hid hJI
  have HI := Lib.hid hI
  have hBn := hI 0 W (hJI 0 W h0)
  have H0 := Lib.hid h0
  clear hY hJ hJI hI h0
  refine callsIn_of_wp Try.func59 rfl (hF.fn _) ?_ hro
  simp only [Try.ntmps59, List.size_toArray, List.length_cons, List.length_nil, Nat.reduceAdd, Nat.reduceSub, Array.replicate_succ, Array.replicate_zero, List.push_toArray, List.append_toArray, List.nil_append, List.cons_append]
  gi_wp2
  gi_loopw [6] (fun i wr => ∃ k : Nat, k ≤ t.size ∧ i = .int .i64 k ∧ Hid (J k wr)) (fun i _ => t.size - (intOf i).toNat)
  case atStart => exact ⟨0, Nat.zero_le _, rfl, H0⟩
  case round =>
    obtain ⟨k, hk, rfl, hJk⟩ := hrel
    clear hBn
    by_cases hlt : k < t.size
    · have hBn := HI.out _ _ (HJI.out _ _ hJk.out)
      have hix := fun w => run_idx t k hlt w
      obtain ⟨x, hx⟩ : ∃ x, byteAt t k = x := ⟨_, rfl⟩
      rw [hx] at hix
      obtain ⟨fn, tmps, assign, body, hy, hR⟩ := HY.out k wr hlt hJk.out
      rw [hx] at hy
      clear hx
      gi_upto_region 3 with fail
      gi_wp2
      refine ⟨(fun hs => by (rw [hF.depth] at hs; cases hs)), hR.mono ?_⟩
      rintro e W' (⟨rfl, hJ'⟩ | ⟨rfl, hJ'⟩)
      · have H' := Lib.hid hJ'
        clear hJ' hR hy
        gi_wp2
        go_roundw
        case rel => exact ⟨k + 1, by omega, by go_num, H'⟩
        case measure => simp [intOf]; omega
      · have H' := Lib.hid hJ'
        clear hJ' hR hy
        gi_wp2
        refine bodyPost_ret (results_none rfl _ _ _) rfl ?_
        exact ⟨⟨_, rfl⟩, .inr ⟨k + 1, by omega, H'.out⟩⟩
    · gi_wp2
      go_end0
      have hkl : k = t.size := by omega
      subst hkl
      exact ⟨⟨_, rfl⟩, .inl hJk.out⟩

set_option maxRecDepth 100000 in
theorem get_ref (t : ByteArray) (ht : t.size = 4) (w : World) : Calls Try.prog 34 #[.string t] w fun e w' => e = .returned (.tuple #[.int .u32 (get4 t), .int .i64 0]) ∧ Ext w w' := by
  have h0 := byteAt_lt t 0
  have h1 := byteAt_lt t 1
  have h2 := byteAt_lt t 2
  have h3 := byteAt_lt t 3
  have hg := get4_eq t
  go_enter Try.func34, Try.ntmps34
  go_upto_region 3 with fail
  refine wp_region_plan [(0,0),(1,0),(2,0),(3,0),(4,0),(5,0),(6,0),(7,0),(8,0),(9,0),(10,0),(11,0),(12,0),(13,0),(14,0),(15,0),(16,0),(17,0),(18,0),(19,0)] (by kernel_rfl) (by kernel_rfl) (by kernel_rfl) (Ext w) (fun _ _ h k => h.trans k) (Ext.drawn _ _) ?_
  first
    | refine Fx.skip rfl rfl (by simp only [List.set_cons_zero, List.set_cons_succ]; rfl) ?_
    | (with_reducible refine Fx.lab0 ?_
       first
         | refine Fx.moveT rfl rfl rfl (by simp only [List.set_cons_zero, List.set_cons_succ]; rfl) ?_
         | refine Fx.assignT rfl rfl rfl (by simp only [List.set_cons_zero, List.set_cons_succ]; rfl) ?_
         | refine Fx.pure_ rfl rfl (fun _ => by go_simp; first | done | rfl) (by simp only [List.set_cons_zero, List.set_cons_succ]; rfl) ?_)
    | (with_reducible refine Fx.lab1 ?_
       refine Fx.look rfl rfl (fun w' hC => by obtain ⟨hc, hf, hl⟩ := Ext.cells hC; go_simp; rfl) (by simp only [List.set_cons_zero, List.set_cons_succ]; rfl) ?_)
  refine Fx.pure_ rfl rfl (fun w => op_idx t 0 0 rfl rfl rfl (by omega) w) (by simp only [List.set_cons_zero, List.set_cons_succ]; rfl) ?_
  iterate 2
    first
      | refine Fx.skip rfl rfl (by simp only [List.set_cons_zero, List.set_cons_succ]; rfl) ?_
      | (with_reducible refine Fx.lab0 ?_
         first
           | refine Fx.moveT rfl rfl rfl (by simp only [List.set_cons_zero, List.set_cons_succ]; rfl) ?_
           | refine Fx.assignT rfl rfl rfl (by simp only [List.set_cons_zero, List.set_cons_succ]; rfl) ?_
           | refine Fx.pure_ rfl rfl (fun _ => by go_simp; first | done | rfl) (by simp only [List.set_cons_zero, List.set_cons_succ]; rfl) ?_)
      | (with_reducible refine Fx.lab1 ?_
         refine Fx.look rfl rfl (fun w' hC => by obtain ⟨hc, hf, hl⟩ := Ext.cells hC; go_simp; rfl) (by simp only [List.set_cons_zero, List.set_cons_succ]; rfl) ?_)
  refine Fx.pure_ rfl rfl (fun w => op_idx t 1 1 rfl rfl rfl (by omega) w) (by simp only [List.set_cons_zero, List.set_cons_succ]; rfl) ?_
  iterate 4
    first
      | refine Fx.skip rfl rfl (by simp only [List.set_cons_zero, List.set_cons_succ]; rfl) ?_
      | (with_reducible refine Fx.lab0 ?_
         first
           | refine Fx.moveT rfl rfl rfl (by simp only [List.set_cons_zero, List.set_cons_succ]; rfl) ?_
           | refine Fx.assignT rfl rfl rfl (by simp only [List.set_cons_zero, List.set_cons_succ]; rfl) ?_
           | refine Fx.pure_ rfl rfl (fun _ => by go_simp; first | done | rfl) (by simp only [List.set_cons_zero, List.set_cons_succ]; rfl) ?_)
      | (with_reducible refine Fx.lab1 ?_
         refine Fx.look rfl rfl (fun w' hC => by obtain ⟨hc, hf, hl⟩ := Ext.cells hC; go_simp; rfl) (by simp only [List.set_cons_zero, List.set_cons_succ]; rfl) ?_)
  refine Fx.pure_ rfl rfl (fun w => op_idx t 2 2 rfl rfl rfl (by omega) w) (by simp only [List.set_cons_zero, List.set_cons_succ]; rfl) ?_
  iterate 4
    first
      | refine Fx.skip rfl rfl (by simp only [List.set_cons_zero, List.set_cons_succ]; rfl) ?_
      | (with_reducible refine Fx.lab0 ?_
         first
           | refine Fx.moveT rfl rfl rfl (by simp only [List.set_cons_zero, List.set_cons_succ]; rfl) ?_
           | refine Fx.assignT rfl rfl rfl (by simp only [List.set_cons_zero, List.set_cons_succ]; rfl) ?_
           | refine Fx.pure_ rfl rfl (fun _ => by go_simp; first | done | rfl) (by simp only [List.set_cons_zero, List.set_cons_succ]; rfl) ?_)
      | (with_reducible refine Fx.lab1 ?_
         refine Fx.look rfl rfl (fun w' hC => by obtain ⟨hc, hf, hl⟩ := Ext.cells hC; go_simp; rfl) (by simp only [List.set_cons_zero, List.set_cons_succ]; rfl) ?_)
  refine Fx.pure_ rfl rfl (fun w => op_idx t 3 3 rfl rfl rfl (by omega) w) (by simp only [List.set_cons_zero, List.set_cons_succ]; rfl) ?_
  iterate 5
    first
      | refine Fx.skip rfl rfl (by simp only [List.set_cons_zero, List.set_cons_succ]; rfl) ?_
      | (with_reducible refine Fx.lab0 ?_
         first
           | refine Fx.moveT rfl rfl rfl (by simp only [List.set_cons_zero, List.set_cons_succ]; rfl) ?_
           | refine Fx.assignT rfl rfl rfl (by simp only [List.set_cons_zero, List.set_cons_succ]; rfl) ?_
           | refine Fx.pure_ rfl rfl (fun _ => by go_simp; first | done | rfl) (by simp only [List.set_cons_zero, List.set_cons_succ]; rfl) ?_)
      | (with_reducible refine Fx.lab1 ?_
         refine Fx.look rfl rfl (fun w' hC => by obtain ⟨hc, hf, hl⟩ := Ext.cells hC; go_simp; rfl) (by simp only [List.set_cons_zero, List.set_cons_succ]; rfl) ?_)
  refine Fx.done (fun w1 hC => ?_)
  have HC := Lib.hid hC
  clear hC
  go_wp2
  go_ret2
  refine ⟨?_, HC.out⟩
  rw [hg, ← or4 h0 h1 h2 h3]; rfl
end Go.Proofs.Ytbjondnombnpbaa
