/-
  ids.join: texts, one behind the other.
-/
import Derived.Test.YtbjondnombnpbaaStr
import Derived.Room.AppendFits
import Derived.Laws.MakeOwn
namespace Go.Proofs.Ytbjondnombnpbaa
open Go.RowKit Go.Lib
attribute [local go_sem] Oper.semAt_some

def strE (d : ByteArray) : List Value := [.string d]
theorem strE_len (d : ByteArray) : (strE d).length = 1 := rfl
theorem strE_one (d : ByteArray) : ∀ u ∈ strE d, u.oneCell' = true := by intro u hu; simp [strE] at hu; subst hu; rfl
abbrev StL (w : World) (v : Value) (l : List ByteArray) : Prop := Sl strE 1 w v l
def bytesI (d : ByteArray) : List Int := d.data.toList.map fun b => (b.toNat : Int)
theorem bytesI_len (d : ByteArray) : (bytesI d).length = d.size := by unfold bytesI; rw [List.length_map]; rfl
def catI (L : List ByteArray) : List Int := L.flatMap bytesI
theorem catI_append (a b : List ByteArray) : catI (a ++ b) = catI a ++ catI b := by simp [catI]
theorem catI_take (L : List ByteArray) {k : Nat} (h : k < L.length) : catI (L.take (k + 1)) = catI (L.take k) ++ bytesI L[k] := by
  rw [List.take_succ_eq_append_getElem h, catI_append]; simp [catI]
theorem catI_le (L : List ByteArray) (k : Nat) : (catI (L.take k)).length ≤ (catI L).length := by
  have := catI_append (L.take k) (L.drop k)
  rw [List.take_append_drop] at this
  rw [this, List.length_append]; omega
theorem strCells_eq (d : ByteArray) : strCells d = (bytesI d).map (Value.int .u8) := by unfold strCells bytesI; rw [List.map_map]; rfl
theorem Sl.atS {w : World} {A : Option Addr} {n cap : Nat} {l : List ByteArray} (h : StL w (.slice A n cap) l) {j : Nat} (hj : j < l.length) :
    ∃ b off, A = some ⟨b, off, none⟩ ∧ b < w.heap.size ∧ w.cell? ⟨b, off + j, none⟩ = some (.string l[j]) := by
  obtain ⟨A', cap', e, _, _, hc⟩ := h
  injection e with e1 e2 e3
  subst e1
  obtain ⟨b, off, rfl, hlt, hcell⟩ := hc (fun e => by rw [e] at hj; simp at hj)
  have := hcell j _ (List.getElem?_eq_getElem hj) 0 _ rfl
  rw [Nat.mul_one, Nat.add_zero] at this
  exact ⟨b, off, rfl, hlt, this⟩
theorem infoBy : (Try.prog.info? 5).map (fun i => (i.zero, i.size, i.bytes)) = some (some (.int .u8 0), 1, 1) := by kernel_rfl
/-- The row of bytes that is filled. -/
def RowB (w : World) (g total : Nat) (l : List Int) : Prop := w.ownsRow 0 5 1 (.slice (some ⟨g, 0, none⟩) l.length total) l.length (l.map (Value.int .u8))
theorem RowB.sl {w : World} {g total : Nat} {l : List Int} (h : RowB w g total l) : ByL w (.slice (some ⟨g, 0, none⟩) l.length total) l := by
  refine Own.sl (e := 5) byE_len ?_
  unfold Own
  rw [flat_byE]; exact h
theorem run_make (total : Nat) (ht : total ≤ 1000000) (w : World) : ∃ w', (Instr.makeSlice 59 (.int .i64 0) (.int .i64 total)).run Try.prog w = .ok (.slice (some ⟨w.heap.size, 0, none⟩) 0 total) w' ∧ RowB w' w.heap.size total [] ∧ Ext w w' := by
  obtain ⟨i0, hi, hz0, hz1, hz2⟩ := info_parts infoBy
  obtain ⟨w', h1, h2, h3⟩ := run_make_own (P := Try.prog) w 0 59 5 i0 _ 1 Try.underlying59 hi hz0 hz1 .i64 .i64 total (by rw [hz2]; omega) (by unfold maxLen; omega) (Nat.zero_le _)
  exact ⟨w', h1, h2, ⟨h3.os, h3.tape, h3.output, h3.size, fun k hk => h3.block k hk (by simp)⟩⟩
theorem run_app {w : World} {g total : Nat} {l : List Int} (h : RowB w g total l) (d : ByteArray) (h0 : 0 < total) (hr : l.length + d.size ≤ total) (ty : TypeId) :
    ∃ w', (Builtin.append_ #[59, 9] ty #[.slice (some ⟨g, 0, none⟩) l.length total, .string d]).run Try.prog w = .ok (.slice (some ⟨g, 0, none⟩) (l ++ bytesI d).length total) w' ∧ RowB w' g total (l ++ bytesI d) ∧ Mods (· = g) w w' := by
  obtain ⟨i0, hi, hz0, hz1, hz2⟩ := info_parts infoBy
  obtain ⟨w', h1, h2, h3⟩ := run_append_fits_string (P := Try.prog) w 0 59 9 ty 5 i0 Try.underlying59 Try.underlying9 hi hz1 (some ⟨g, 0, none⟩) l.length total _ h d h0 hr
  have e : (l ++ bytesI d).length = l.length + d.size := by rw [List.length_append, bytesI_len]
  refine ⟨w', by rw [e]; exact h1, ?_, (Mods.of_grown h3).mono (fun x _ hx => by simp [Value.ownBlock] at hx; exact hx.symm)⟩
  unfold RowB
  rw [e, List.map_append, ← strCells_eq]
  exact h2

theorem RowB.mods {w w' : World} {S : Nat → Prop} {g total : Nat} {l : List Int} (h : RowB w g total l) (he : Mods S w w') (hS : ¬ S g) : RowB w' g total l := by
  have h2 : Own byE 1 5 w (.slice (some ⟨g, 0, none⟩) l.length total) l := by unfold Own; rw [flat_byE]; exact h
  have := h2.mods he (fun b hb => by simp [Value.ownBlock] at hb; rw [← hb]; exact hS)
  unfold Own at this; rw [flat_byE] at this; exact this
theorem stepAt_app {a : Act} {o : Option Tmp} {t : TypeId} {s : String} {af : Array Edge} {gd : Option (Nat × Bool)} {W w : World} {q x : Operand} {g total : Nat} {l : List Int} {d : ByteArray} (hC : Ext W w) (h : RowB W g total l) (h0 : 0 < total) (hr : l.length + d.size ≤ total) (hq : a.eval q = .slice (some ⟨g, 0, none⟩) l.length total) (hx : a.eval x = .string d) :
    stepAt Try.prog ⟨o, .call { callee := .builtin .append, args := #[q, x], argTypes := #[59, 9] }, t, s, af, gd⟩ a w
      (fun u w' => u = .slice (some ⟨g, 0, none⟩) (l ++ bytesI d).length total ∧ (RowB w' g total (l ++ bytesI d) ∧ Mods (· = g) W w')) := by
  obtain ⟨w', h1, h2, h3⟩ := run_app (h.mods (hC.mods (fun _ => False)) (fun h => h)) d h0 hr t
  unfold stepAt
  simp only [execOp, resolve, invoke, builtin, Sem.run_bind, Sem.run_pure, Result.andThen_ok, List.map_toArray, List.map_cons, List.map_nil, hq, hx, h1]
  exact ⟨trivial, h2, h3.after hC⟩
set_option maxRecDepth 100000 in
set_option maxHeartbeats 1600000 in
theorem join_at (w : World) (v : Value) (L : List ByteArray) (hl : StL w v L) (h0 : 0 < (catI L).length) (h1 : (catI L).length ≤ 1000000) :
    Calls Try.prog 31 #[v] w fun e w' => e = .returned (.string (strOfNums (catI L))) ∧ Ext w w' := by
  have HL := Lib.hid hl
  obtain ⟨A, cap, rfl, hcap, hmax⟩ := hl.val
  have hlen : L.length ≤ 9223372036854775807 := Nat.le_trans hcap (Nat.le_trans hmax (by decide))
  obtain ⟨total, htot⟩ : ∃ t, (catI L).length = t := ⟨_, rfl⟩
  rw [htot] at h0 h1
  have HTot := Lib.hid htot
  clear hl hcap hmax htot
  go_enter Try.func31, Try.ntmps31
  go_wp2
  go_loopw [3, 11] (fun q p wr => ∃ (k n : Nat), k ≤ L.length ∧ p = .int .i64 k ∧ q = .int .i64 n ∧ Hid (n = (catI (L.take k)).length) ∧ Hid (Ext w wr)) (fun _ p _ => L.length - (intOf p).toNat)
  case atStart => exact ⟨0, 0, Nat.zero_le _, rfl, rfl, Lib.hid (by simp [catI]), Lib.hid (Ext.refl _)⟩
  case round =>
    obtain ⟨k, n, hk, rfl, rfl, hn, hE⟩ := hrel
    have hnt : n ≤ total := by rw [hn.out, ← HTot.out]; exact catI_le L k
    by_cases hlt : k < L.length
    · obtain ⟨jb, joff, rfl, hjbl, j0⟩ := Sl.atS (HL.out.ext hE.out) hlt
      have hck := catI_take L hlt
      have hc2 := catI_le L (k + 1)
      rw [hck, List.length_append, bytesI_len, HTot.out, ← hn.out] at hc2
      have hn2 : n + L[k].size = (catI (L.take (k + 1))).length := by rw [hck, List.length_append, bytesI_len, ← hn.out]
      obtain ⟨d, hd⟩ : ∃ d, L[k] = d := ⟨_, rfl⟩
      rw [hd] at j0 hc2 hn2
      have HN2 := Lib.hid hn2
      have hwk : IntKind.i64.wrap ((k : Int) + 1) = (k : Int) + 1 := IntWalk.i64_in _ ⟨by omega, by omega⟩
      have hwn : IntKind.i64.wrap ((n : Int) + (d.size : Int)) = ((n + d.size : Nat) : Int) := by rw [IntWalk.i64_in _ ⟨by omega, by omega⟩]; push_cast; rfl
      clear hck hc2 hn2 hd
      go_wp2
      go_roundw
      case rel => exact ⟨k + 1, n + d.size, by omega, by go_num, rfl, HN2, hE⟩
      case measure => simp [intOf]; omega
    · have hkl : k = L.length := by omega
      have hnT : n = total := by rw [hn.out, hkl, List.take_length, HTot.out]
      subst hnT
      obtain ⟨w1, hmk, hRw, hE1⟩ := run_make n h1 wr
      have hE01 := hE.out.trans hE1
      have HRw := Lib.hid hRw
      have HE1 := Lib.hid hE01
      have hgs : w.heap.size ≤ wr.heap.size := hE.out.size
      generalize hg : wr.heap.size = g at *
      clear hRw hE1 hE01 hn hkl hnt
      go_wp2
      clear hmk
      generalize wr = wA at *
      go_loopw [6, 24] (fun q p wr => ∃ (k : Nat) (l : List Int), k ≤ L.length ∧ p = .int .i64 k ∧ q = .slice (some ⟨g, 0, none⟩) l.length n ∧ Hid (l = catI (L.take k)) ∧ Hid (RowB wr g n l) ∧ Hid (Ext w wr)) (fun _ p _ => L.length - (intOf p).toNat)
      case atStart => exact ⟨0, [], Nat.zero_le _, rfl, rfl, Lib.hid (by simp [catI]), HRw, HE1⟩
      case round =>
        clear HRw HE1
        obtain ⟨k, l, hk, rfl, rfl, hlk, hRw, hE⟩ := hrel
        by_cases hlt : k < L.length
        · obtain ⟨jb, joff, rfl, hjbl, j0⟩ := Sl.atS (HL.out.ext hE.out) hlt
          have hck := catI_take L hlt
          have hc2 := catI_le L (k + 1)
          rw [hck, List.length_append, bytesI_len, HTot.out, ← hlk.out] at hc2
          rw [← hlk.out] at hck
          obtain ⟨d, hd⟩ : ∃ d, L[k] = d := ⟨_, rfl⟩
          rw [hd] at j0 hc2 hck
          have HCk := Lib.hid hck
          have hwk : IntKind.i64.wrap ((k : Int) + 1) = (k : Int) + 1 := IntWalk.i64_in _ ⟨by omega, by omega⟩
          have HC2 := Lib.hid hc2
          clear hck hc2 hd
          go_upto_region 11 with fail
          refine wp_region_line [(0,0),(1,0),(2,3),(3,0)] (by kernel_rfl) (by kernel_rfl) (Ext wr) (fun _ _ h k => h.trans k) (Ext.refl _) ?_
          iterate 2
            first
              | refine Fx.skip rfl rfl (by simp only [List.set_cons_zero, List.set_cons_succ]; rfl) ?_
              | (with_reducible refine Fx.lab0 ?_
                 first
                   | refine Fx.moveT rfl rfl rfl (by simp only [List.set_cons_zero, List.set_cons_succ]; rfl) ?_
                   | refine Fx.assignT rfl rfl rfl (by simp only [List.set_cons_zero, List.set_cons_succ]; rfl) ?_
                   | refine Fx.pure_ rfl rfl (fun _ => by go_simp; first | done | rfl) (by simp only [List.set_cons_zero, List.set_cons_succ]; rfl) ?_)
              | (with_reducible refine Fx.lab1 ?_
                 refine Fx.look rfl rfl (fun w' hC => by obtain ⟨hc, hf, hl⟩ := Ext.cells hC; go_simp; rfl) (by simp only [List.set_cons_zero, List.set_cons_succ]; rfl) ?_)
          refine Fx.effV (u := .slice (some ⟨g, 0, none⟩) (l ++ bytesI d).length n) (fun w' => RowB w' g n (l ++ bytesI d) ∧ Mods (· = g) wr w') (fun _ _ h k => ⟨h.1.mods (k.mods (fun _ => False)) (fun h => h), h.2.then_ k⟩) rfl rfl (fun w' hC => stepAt_app hC hRw.out h0 HC2.out rfl rfl) (by simp only [List.set_cons_zero, List.set_cons_succ]; rfl) ?_
          first
            | refine Fx.skip rfl rfl (by simp only [List.set_cons_zero, List.set_cons_succ]; rfl) ?_
            | (with_reducible refine Fx.lab0 ?_
               first
                 | refine Fx.moveT rfl rfl rfl (by simp only [List.set_cons_zero, List.set_cons_succ]; rfl) ?_
                 | refine Fx.assignT rfl rfl rfl (by simp only [List.set_cons_zero, List.set_cons_succ]; rfl) ?_
                 | refine Fx.pure_ rfl rfl (fun _ => by go_simp; first | done | rfl) (by simp only [List.set_cons_zero, List.set_cons_succ]; rfl) ?_)
            | (with_reducible refine Fx.lab1 ?_
               refine Fx.look rfl rfl (fun w' hC => by obtain ⟨hc, hf, hl⟩ := Ext.cells hC; go_simp; rfl) (by simp only [List.set_cons_zero, List.set_cons_succ]; rfl) ?_)
          refine Fx.done (fun w2 hC => ?_)
          have HRw2 := Lib.hid hC.1
          have HE2 := Lib.hid (((hE.out.mods (· = g)).trans hC.2 (fun _ _ h => h)).ext_of (fun x hx e => by omega))
          clear hC j0
          go_wp2
          go_roundw
          case rel => exact ⟨k + 1, l ++ bytesI d, by omega, by go_num, rfl, Lib.hid HCk.out.symm, HRw2, HE2⟩
          case measure => simp [intOf]; omega
        · have hkl : k = L.length := by omega
          have hll : l = catI L := by rw [hlk.out, hkl, List.take_length]
          have hcv := run_conv hRw.out.sl
          have HLl := Lib.hid hll
          clear hll hkl
          go_wp2
          go_ret
          exact ⟨by rw [HLl.out]; rfl, hE.out⟩
end Go.Proofs.Ytbjondnombnpbaa
