/-
  rostrumlaw16.few.
-/
import Derived.Test.YtfnchpjiebojiaaShown
import Derived.Laws.IdiomStrings
namespace Go.Proofs.Ytfnchpjiebojiaa
open Go.RowKit

def zeros : ByteArray := ⟨(List.replicate 1001 (0 : UInt8)).toArray⟩
def cutH (h : Hp) : Hp := if 100 < h.m.d.size then { h with m := { h.m with d := zeros } } else h
def fewL (l : List Hp) : List Hp := (l.take 100).map cutH
theorem infoHp : (Try.prog.info? 36).map (fun i => (i.zero, i.size, i.bytes)) = some (some (.agg #[.int .i64 0, .int .i64 0, .int .i64 0, .int .u32 0, .string ⟨#[]⟩]), 5, 48) := by kernel_rfl
abbrev OwnHp (w : World) (v : Value) (l : List Hp) : Prop := Own Hp.enc 5 36 w v l
theorem OwnHp.append {w : World} {v : Value} {l m : List Hp} {x : Value} {ty : TypeId} (h : OwnHp w v l) (hx : HpL w x m) (hlen : l.length + m.length ≤ 1073741824) :
    ∃ v' w', (Builtin.append_ #[22, 22] ty #[v, x]).run Try.prog w = .ok v' w' ∧ OwnHp w' v' (l ++ m) ∧ Mods (fun b => v.ownBlock = some b) w w' ∧
      (∀ b, v'.ownBlock = some b → v.ownBlock = some b ∨ w.heap.size ≤ b) := by
  obtain ⟨i0, hi, hz0, hz1, hz2⟩ := info_parts infoHp
  exact Own.append Hp.len Hp.one (by decide) Try.underlying22 hi hz0 hz1 rfl h hx hlen (by rw [hz2]; decide)
section
variable {a : Act} {d : Option Tmp} {t : TypeId} {s : String} {af : Array Edge} {g : Option (Nat × Bool)} {W w : World}
theorem run_lit1H (m : Hp) (w : World) {x : Value} (hx : x = m.val) : (Instr.buildSlice 22 1 #[(0, x)]).run Try.prog w = .ok (.slice (some ⟨w.heap.size, 0, none⟩) 1 1) (w.alloc (.cells m.enc.toArray 36)) := by
  subst hx
  unfold Hp.val Hp.enc
  simp [go_sem, Try.zeroValue36, Try.sizeOf36, Instr.buildSlice, run_underlying Try.underlying22]
theorem stepAt_lit1H {x : Operand} (hC : Ext W w) (m : Hp) (hx : a.eval x = m.val) :
    stepAt Try.prog ⟨d, .buildSlice 22 1 #[(0, x)], t, s, af, g⟩ a w (fun u w' => ∃ b, u = .slice (some ⟨b, 0, none⟩) 1 1 ∧ Ext w w' ∧ HpL w' (.slice (some ⟨b, 0, none⟩) 1 1) [m]) := by
  unfold stepAt
  simp only [execOp, Sem.run_bind, List.map_toArray, List.map_cons, List.map_nil, run_lit1H m w hx, Result.andThen_ok]
  exact ⟨_, rfl, Ext.alloc _ _, (Own.lit (enc := Hp.enc) Hp.len w [m] (by unfold maxLen; simp) (by simp) (cs := m.enc) (by simp)).sl Hp.len⟩
theorem stepAt_appendH {q x : Operand} {v xv : Value} {l m : List Hp} (hC : Ext W w) (h : OwnHp w v l) (hx : HpL w xv m) (hlen : l.length + m.length ≤ 1073741824) (hq : a.eval q = v) (hxe : a.eval x = xv) :
    stepAt Try.prog ⟨d, .call { callee := .builtin .append, args := #[q, x], argTypes := #[22, 22] }, t, s, af, g⟩ a w
      (fun v' w' => OwnHp w' v' (l ++ m) ∧ Mods (fun b => v.ownBlock = some b) W w' ∧ (∀ b, v'.ownBlock = some b → v.ownBlock = some b ∨ W.heap.size ≤ b)) := by
  obtain ⟨v', w', hr, h1, h2, h3⟩ := h.append hx hlen (ty := t)
  unfold stepAt
  simp only [execOp, resolve, invoke, builtin, Sem.run_bind, Sem.run_pure, Result.andThen_ok, List.map_toArray, List.map_cons, List.map_nil, hq, hxe, hr]
  exact ⟨h1, h2.after hC, fun b hb => (h3 b hb).imp id (fun hh => Nat.le_trans hC.size hh)⟩
end

/-- make([]byte, 1001) as a string. -/
theorem infoByte : (Try.prog.info? 5).map (fun i => (i.zero, i.size, i.bytes)) = some (some (.int .u8 0), 1, 1) := by kernel_rfl
theorem run_make1001 (w : World) : (Instr.makeSlice 58 (.int .i64 1001) (.int .i64 1001)).run Try.prog w = .ok (.slice (some ⟨w.heap.size, 0, none⟩) 1001 1001) (w.alloc (.cells (madeCells #[.int .u8 0] 1001) 5)) := by
  obtain ⟨i0, hi, hz0, hz1, hz2⟩ := info_parts infoByte
  have h := run_make (P := Try.prog) w 58 5 i0 _ Try.underlying58 hi hz0 .i64 .i64 1001 1001 (by omega) (by omega) (by rw [hz2]; omega) (by omega)
  rw [hz1] at h
  exact h
theorem run_conv1001 (w w' : World) (g : Nat) (hc : ∀ j, j < 1001 → w'.cell? ⟨g, j, none⟩ = some (.int .u8 0)) : (convert 58 9 (.slice (some ⟨g, 0, none⟩) 1001 1001)).run Try.prog w' = .ok (.string zeros) w' := by
  have hl : (List.replicate 1001 (0 : UInt8)).length = 1001 := List.length_replicate
  have h := run_convert_bytes_back (P := Try.prog) w' 58 9 5 ⟨g, 0, none⟩ 1001 (List.replicate 1001 0) Try.underlying58 Try.underlying5 Try.underlying9 (fun j hj => by
    rw [hl] at hj
    have e : Addr.add ⟨g, 0, none⟩ j = ⟨g, j, none⟩ := by
      unfold Addr.add
      split
      · rename_i h0; rw [h0]
      · simp
    rw [e, hc j hj, List.getElem_replicate]
    rfl)
  rw [hl] at h
  exact h
theorem made_cell (w : World) (j : Nat) (hj : j < 1001) : (w.alloc (.cells (madeCells #[.int .u8 0] 1001) 5)).cell? ⟨w.heap.size, j, none⟩ = some (.int .u8 0) := by
  rw [World.cell?_alloc_mark]
  unfold madeCells
  simp [hj, Nat.mod_one]
theorem stepAt_make1001 {a : Act} {d : Option Tmp} {t : TypeId} {s : String} {af : Array Edge} {g : Option (Nat × Bool)} {w : World} :
    stepAt Try.prog ⟨d, .makeSlice 58 (.const (.int .i64 1001)) (.const (.int .i64 1001)), t, s, af, g⟩ a w (fun u w' => ∃ b, u = .slice (some ⟨b, 0, none⟩) 1001 1001 ∧ Ext w w' ∧ Obj_ w' b 1001 (fun _ => .int .u8 0)) := by
  unfold stepAt
  have h : (execOp a.eval ⟨d, .makeSlice 58 (.const (.int .i64 1001)) (.const (.int .i64 1001)), t, s, af, g⟩).run Try.prog w = .ok (.value (.slice (some ⟨w.heap.size, 0, none⟩) 1001 1001)) (w.alloc (.cells (madeCells #[.int .u8 0] 1001) 5)) := by
    simp only [execOp, Act.eval, Sem.run_bind, run_make1001, Result.andThen_ok]; rfl
  rw [h]
  refine ⟨_, rfl, Ext.alloc _ _, ?_⟩
  have := Obj_.new w 5 (madeCells #[.int .u8 0] 1001) (fun _ => .int .u8 0) (fun i hi => by rw [size_madeCells] at hi; unfold madeCells; simp [hi, Nat.mod_one])
  rwa [size_madeCells] at this

def FewR (w : World) (l : List Hp) (e : Ending) (w' : World) : Prop := ∃ v', e = .returned v' ∧ OwnHp w' v' (fewL l) ∧ Ext w w' ∧ ∀ b, v'.ownBlock = some b → w.heap.size ≤ b
theorem fewL_snoc (l : List Hp) (k : Nat) (h : k < l.length) : (l.take (k + 1)).map cutH = (l.take k).map cutH ++ [cutH l[k]] := by
  rw [List.take_succ_eq_append_getElem h, List.map_append]; rfl

set_option maxRecDepth 100000 in
set_option maxHeartbeats 1600000 in
theorem few_at (w : World) (v : Value) (l : List Hp) (hl : HpL w v l) : Calls Try.prog 10 #[v] w (FewR w l) := by
  obtain ⟨A, cap, rfl, hcap, hmax⟩ := hl.val
  have hlen : l.length ≤ 9223372036854775807 := Nat.le_trans hcap (Nat.le_trans hmax (by decide))
  have HL := Lib.hid hl
  clear hl hcap hmax
  go_enter Try.func10, Try.ntmps10
  go_wp2
  go_loopw [3, 4] (fun v0 i wr => ∃ (k : Nat) (v : Value), v = v0 ∧ k ≤ l.length ∧ k ≤ 100 ∧ i = .int .i64 k ∧ Hid (OwnHp wr v ((l.take k).map cutH)) ∧ Hid (∀ b, v.ownBlock = some b → w.heap.size ≤ b) ∧ Hid (Ext w wr)) (fun _ i _ => l.length - (intOf i).toNat)
  case atStart => exact ⟨0, _, rfl, Nat.zero_le _, Nat.zero_le _, rfl, Lib.hid (by simpa using Own.nil), Lib.hid (fun b hb => by simp [Value.ownBlock] at hb), Lib.hid (Ext.refl _)⟩
  case round =>
    obtain ⟨k, v, rfl, hk, hk100, rfl, hown, hblk, hext⟩ := hrel
    by_cases hlt : k < l.length
    · by_cases hlt2 : k < 100
      · obtain ⟨b, off, he, hbl, c0, c1, c2, c3, c4⟩ := Sl.at5 (HL.out.ext hext.out) hlt
        injection he with hA1 hA2 hA3
        subst hA1
        have Hs := Lib.hid (fewL_snoc l k hlt)
        clear hA2 hA3
        generalize l[k] = m at *
        go_upto_region 5 with fail
        refine wp_region_line [(0,0),(1,0),(2,0),(3,1),(4,2),(5,3)] (by kernel_rfl) (by kernel_rfl) (Ext wr) (fun _ _ h k => h.trans k) (Ext.refl _) ?_
        iterate 3
          first
            | refine Fx.skip rfl rfl (by simp only [List.set_cons_zero, List.set_cons_succ]; rfl) ?_
            | (with_reducible refine Fx.lab0 ?_
               first
                 | refine Fx.moveT rfl rfl rfl (by simp only [List.set_cons_zero, List.set_cons_succ]; rfl) ?_
                 | refine Fx.assignT rfl rfl rfl (by simp only [List.set_cons_zero, List.set_cons_succ]; rfl) ?_
                 | refine Fx.pure_ rfl rfl (fun _ => by go_simp; first | done | rfl) (by simp only [List.set_cons_zero, List.set_cons_succ]; rfl) ?_)
            | (with_reducible refine Fx.lab1 ?_
               refine Fx.look rfl rfl (fun w' hC => by obtain ⟨hc, hf, hl⟩ := Ext.cells hC; go_simp; rfl) (by simp only [List.set_cons_zero, List.set_cons_succ]; rfl) ?_)
        refine Fx.look rfl rfl (op_load_Hp' (h := m) hbl c0 c1 c2 c3 c4 rfl) (by simp only [List.set_cons_zero, List.set_cons_succ]; rfl) ?_
        refine Fx.mkPtr (fun B w' => wr.heap.size ≤ B ∧ Obj_ w' B 5 (hpF hp0)) (fun B _ _ h k => ⟨h.1, h.2.ext k⟩) rfl rfl (fun w' hC => stepAt_alloc_Hp hC) (fun B => ?_)
        simp only [List.set_cons_zero, List.set_cons_succ]
        refine Fx.eff0 (HpPre wr B m) (hpPre_stable _ _ _) rfl rfl (fun w' hC => stepAt_mono (stepAt_store_Hp hC.1 hC.2.1 hC.2.2 m rfl rfl) (fun _ w'' h => ⟨h.1, hC.2.1, h.2⟩)) ?_
        refine Fx.done (fun w1 hC => ?_)
        obtain ⟨hC1, hB, hOb⟩ := hC
        have HE1 := Lib.hid hC1
        have HO := Lib.hid hOb
        have hc4 : w1.cell? ⟨B, 4, none⟩ = some (.string m.m.d) := hOb.cell 4 (by decide)
        have hf4 := hOb.free 4
        have hl4 := hOb.lt
        clear hC1 hOb c0 c1 c2 c3 c4
        by_cases hbig : 100 < m.m.d.size
        · have hbg : (100 : Int) < m.m.d.size := by omega
          have HX : Hid (cutH m = { m with m := { m.m with d := zeros } }) := Lib.hid (by unfold cutH; rw [if_pos hbig])
          clear hbig
          go_upto_region 7 with fail
          refine wp_region_line [(0,2),(1,1),(2,0),(3,0),(4,3)] (by kernel_rfl) (by kernel_rfl) (Ext w1) (fun _ _ h k => h.trans k) (Ext.refl _) ?_
          refine Fx.mkSl 1001 1001 (fun g w' => Obj_ w' g 1001 (fun _ => .int .u8 0)) (fun g _ _ h k => h.ext k) rfl rfl (fun w' hC => stepAt_make1001) (fun g => ?_)
          simp only [List.set_cons_zero, List.set_cons_succ]
          refine Fx.look rfl rfl (v := .string zeros) (fun w' hC => by
            simp only [execOp]
            rw [Sem.run_bind, show (Act.eval _ _) = Value.slice (some ⟨g, 0, none⟩) 1001 1001 from rfl, run_conv1001 w' w' g (fun j hj => hC.2.cell j hj)]; rfl) (by simp only [List.set_cons_zero, List.set_cons_succ]; rfl) ?_
          iterate 2
            first
              | refine Fx.skip rfl rfl (by simp only [List.set_cons_zero, List.set_cons_succ]; rfl) ?_
              | (with_reducible refine Fx.lab0 ?_
                 first
                   | refine Fx.moveT rfl rfl rfl (by simp only [List.set_cons_zero, List.set_cons_succ]; rfl) ?_
                   | refine Fx.assignT rfl rfl rfl (by simp only [List.set_cons_zero, List.set_cons_succ]; rfl) ?_
                   | refine Fx.pure_ rfl rfl (fun _ => by go_simp; first | done | rfl) (by simp only [List.set_cons_zero, List.set_cons_succ]; rfl) ?_)
              | (with_reducible refine Fx.lab1 ?_
                 refine Fx.look rfl rfl (fun w' hC => by obtain ⟨hc, hf, hl⟩ := Ext.cells hC; go_simp; rfl) (by simp only [List.set_cons_zero, List.set_cons_succ]; rfl) ?_)
          refine Fx.store ⟨B, 4, none⟩ (.string zeros) rfl rfl (fun w' hC => by
            obtain ⟨hc, hf, hl⟩ := hC.1.cells
            have e1 := (hc _ 4 hl4).trans hc4
            have e2 := (hf _ 4 hl4).trans hf4
            clear hc hf hl
            go_simp) ?_
          refine Fx.done (fun wx hC => ?_)
          obtain ⟨w', ⟨x1, -⟩, x2⟩ := hC
          have HEX := Lib.hid (((HE1.out.trans x1).setNew (p := ⟨B, 4, none⟩) hB (.string zeros)).trans x2)
          have OBX : Obj_ wx B 5 (hpF (cutH m)) := (((HO.out.ext x1).set (i := 4) (by decide) (.string zeros)).ext x2).congr (fun i hi => by
            rw [HX.out]
            match i, hi with
            | 0, _ => rfl
            | 1, _ => rfl
            | 2, _ => rfl
            | 3, _ => rfl
            | 4, _ => rfl)
          clear x1 x2 hc4 hf4 hl4
          go_upto_region 8 with fail
          have hobx : Obj_ wx B 5 (hpF (cutH m)) := OBX
          have hb5 : ∀ i u, (cutH m).enc[i]? = some u → wx.cell? ⟨B, i, none⟩ = some u := fun i u hu => by
            have h5 : i < 5 := by have := (List.getElem?_eq_some_iff.1 hu).1; simpa [Hp.enc] using this
            rw [hobx.cell i h5]; simp [hpF, hu]
          have d0 := hb5 0 _ rfl
          have d1 := hb5 1 _ rfl
          have d2 := hb5 2 _ rfl
          have d3 := hb5 3 _ rfl
          have d4 := hb5 4 _ rfl
          have dl := hobx.lt
          have hown2 := Lib.hid (hown.out.ext HEX.out)
          have hextx := Lib.hid (hext.out.trans HEX.out)
          have hsz := HEX.out.size
          clear hb5 hobx
          refine wp_region_line [(0,0),(1,1),(2,2),(3,3),(4,0)] (by kernel_rfl) (by kernel_rfl) (Ext wx) (fun _ _ h k => h.trans k) (Ext.refl _) ?_
          first
            | refine Fx.skip rfl rfl (by simp only [List.set_cons_zero, List.set_cons_succ]; rfl) ?_
            | (with_reducible refine Fx.lab0 ?_
               first
                 | refine Fx.moveT rfl rfl rfl (by simp only [List.set_cons_zero, List.set_cons_succ]; rfl) ?_
                 | refine Fx.assignT rfl rfl rfl (by simp only [List.set_cons_zero, List.set_cons_succ]; rfl) ?_
                 | refine Fx.pure_ rfl rfl (fun _ => by go_simp; first | done | rfl) (by simp only [List.set_cons_zero, List.set_cons_succ]; rfl) ?_)
            | (with_reducible refine Fx.lab1 ?_
               refine Fx.look rfl rfl (fun w' hC => by obtain ⟨hc, hf, hl⟩ := Ext.cells hC; go_simp; rfl) (by simp only [List.set_cons_zero, List.set_cons_succ]; rfl) ?_)
          refine Fx.look rfl rfl (op_load_Hp' (h := cutH m) dl d0 d1 d2 d3 d4 rfl) (by simp only [List.set_cons_zero, List.set_cons_succ]; rfl) ?_
          refine Fx.mkSl 1 1 (fun B w' => HpL w' (.slice (some ⟨B, 0, none⟩) 1 1) [cutH m]) (fun B _ _ h k => h.ext k) rfl rfl (fun w' hC => stepAt_lit1H hC (cutH m) rfl) (fun B2 => ?_)
          simp only [List.set_cons_zero, List.set_cons_succ]
          refine Fx.eff (fun v' w' => OwnHp w' v' ((l.take k).map cutH ++ [cutH m]) ∧ Mods (fun c => v.ownBlock = some c) wx w' ∧ (∀ c, v'.ownBlock = some c → v.ownBlock = some c ∨ wx.heap.size ≤ c)) (fun v _ _ h k => ⟨h.1.ext k, h.2.1.then_ k, h.2.2⟩) rfl rfl
            (fun w' hC => stepAt_appendH hC.1 (hown2.out.ext hC.1) hC.2 (by have := List.length_take_le k l; simp; omega) rfl rfl) (fun lv' => ?_)
          simp only [List.set_cons_zero, List.set_cons_succ]
          first
            | refine Fx.skip rfl rfl (by simp only [List.set_cons_zero, List.set_cons_succ]; rfl) ?_
            | (with_reducible refine Fx.lab0 ?_
               first
                 | refine Fx.moveT rfl rfl rfl (by simp only [List.set_cons_zero, List.set_cons_succ]; rfl) ?_
                 | refine Fx.assignT rfl rfl rfl (by simp only [List.set_cons_zero, List.set_cons_succ]; rfl) ?_
                 | refine Fx.pure_ rfl rfl (fun _ => by go_simp; first | done | rfl) (by simp only [List.set_cons_zero, List.set_cons_succ]; rfl) ?_)
            | (with_reducible refine Fx.lab1 ?_
               refine Fx.look rfl rfl (fun w' hC => by obtain ⟨hc, hf, hl⟩ := Ext.cells hC; go_simp; rfl) (by simp only [List.set_cons_zero, List.set_cons_succ]; rfl) ?_)
          refine Fx.done (fun w3 hC => ?_)
          have HC := Lib.hid hC
          clear hC d0 d1 d2 d3 d4
          go_wp2
          go_roundw
          case rel =>
            refine ⟨k + 1, _, rfl, by omega, by omega, by go_num, ?_, ?_, ?_⟩
            · refine Lib.hid ?_
              have e := Hs.out
              rw [e]; exact HC.out.1
            · exact Lib.hid (fun b hb => (HC.out.2.2 b hb).elim (hblk.out b) (fun h => Nat.le_trans hextx.out.size h))
            · exact Lib.hid (((hextx.out.mods (fun c => v.ownBlock = some c)).trans HC.out.2.1 (fun _ _ h => h)).ext_of (fun x hx hs => by have := hblk.out x hs; omega))
          case measure => simp [intOf]; omega
        · have hsm : (m.m.d.size : Int) ≤ 100 := by omega
          have HX : Hid (cutH m = m) := Lib.hid (by unfold cutH; rw [if_neg hbig])
          clear hbig
          go_upto_region 8 with fail
          have HEX := HE1
          have OBX : Obj_ w1 B 5 (hpF (cutH m)) := by rw [HX.out]; exact HO.out
          clear hc4 hf4 hl4
          have hobx : Obj_ w1 B 5 (hpF (cutH m)) := OBX
          have hb5 : ∀ i u, (cutH m).enc[i]? = some u → w1.cell? ⟨B, i, none⟩ = some u := fun i u hu => by
            have h5 : i < 5 := by have := (List.getElem?_eq_some_iff.1 hu).1; simpa [Hp.enc] using this
            rw [hobx.cell i h5]; simp [hpF, hu]
          have d0 := hb5 0 _ rfl
          have d1 := hb5 1 _ rfl
          have d2 := hb5 2 _ rfl
          have d3 := hb5 3 _ rfl
          have d4 := hb5 4 _ rfl
          have dl := hobx.lt
          have hown2 := Lib.hid (hown.out.ext HEX.out)
          have hextx := Lib.hid (hext.out.trans HEX.out)
          have hsz := HEX.out.size
          clear hb5 hobx
          refine wp_region_line [(0,0),(1,1),(2,2),(3,3),(4,0)] (by kernel_rfl) (by kernel_rfl) (Ext w1) (fun _ _ h k => h.trans k) (Ext.refl _) ?_
          first
            | refine Fx.skip rfl rfl (by simp only [List.set_cons_zero, List.set_cons_succ]; rfl) ?_
            | (with_reducible refine Fx.lab0 ?_
               first
                 | refine Fx.moveT rfl rfl rfl (by simp only [List.set_cons_zero, List.set_cons_succ]; rfl) ?_
                 | refine Fx.assignT rfl rfl rfl (by simp only [List.set_cons_zero, List.set_cons_succ]; rfl) ?_
                 | refine Fx.pure_ rfl rfl (fun _ => by go_simp; first | done | rfl) (by simp only [List.set_cons_zero, List.set_cons_succ]; rfl) ?_)
            | (with_reducible refine Fx.lab1 ?_
               refine Fx.look rfl rfl (fun w' hC => by obtain ⟨hc, hf, hl⟩ := Ext.cells hC; go_simp; rfl) (by simp only [List.set_cons_zero, List.set_cons_succ]; rfl) ?_)
          refine Fx.look rfl rfl (op_load_Hp' (h := cutH m) dl d0 d1 d2 d3 d4 rfl) (by simp only [List.set_cons_zero, List.set_cons_succ]; rfl) ?_
          refine Fx.mkSl 1 1 (fun B w' => HpL w' (.slice (some ⟨B, 0, none⟩) 1 1) [cutH m]) (fun B _ _ h k => h.ext k) rfl rfl (fun w' hC => stepAt_lit1H hC (cutH m) rfl) (fun B2 => ?_)
          simp only [List.set_cons_zero, List.set_cons_succ]
          refine Fx.eff (fun v' w' => OwnHp w' v' ((l.take k).map cutH ++ [cutH m]) ∧ Mods (fun c => v.ownBlock = some c) w1 w' ∧ (∀ c, v'.ownBlock = some c → v.ownBlock = some c ∨ w1.heap.size ≤ c)) (fun v _ _ h k => ⟨h.1.ext k, h.2.1.then_ k, h.2.2⟩) rfl rfl
            (fun w' hC => stepAt_appendH hC.1 (hown2.out.ext hC.1) hC.2 (by have := List.length_take_le k l; simp; omega) rfl rfl) (fun lv' => ?_)
          simp only [List.set_cons_zero, List.set_cons_succ]
          first
            | refine Fx.skip rfl rfl (by simp only [List.set_cons_zero, List.set_cons_succ]; rfl) ?_
            | (with_reducible refine Fx.lab0 ?_
               first
                 | refine Fx.moveT rfl rfl rfl (by simp only [List.set_cons_zero, List.set_cons_succ]; rfl) ?_
                 | refine Fx.assignT rfl rfl rfl (by simp only [List.set_cons_zero, List.set_cons_succ]; rfl) ?_
                 | refine Fx.pure_ rfl rfl (fun _ => by go_simp; first | done | rfl) (by simp only [List.set_cons_zero, List.set_cons_succ]; rfl) ?_)
            | (with_reducible refine Fx.lab1 ?_
               refine Fx.look rfl rfl (fun w' hC => by obtain ⟨hc, hf, hl⟩ := Ext.cells hC; go_simp; rfl) (by simp only [List.set_cons_zero, List.set_cons_succ]; rfl) ?_)
          refine Fx.done (fun w3 hC => ?_)
          have HC := Lib.hid hC
          clear hC d0 d1 d2 d3 d4
          go_wp2
          go_roundw
          case rel =>
            refine ⟨k + 1, _, rfl, by omega, by omega, by go_num, ?_, ?_, ?_⟩
            · refine Lib.hid ?_
              have e := Hs.out
              rw [e]; exact HC.out.1
            · exact Lib.hid (fun b hb => (HC.out.2.2 b hb).elim (hblk.out b) (fun h => Nat.le_trans hextx.out.size h))
            · exact Lib.hid (((hextx.out.mods (fun c => v.ownBlock = some c)).trans HC.out.2.1 (fun _ _ h => h)).ext_of (fun x hx hs => by have := hblk.out x hs; omega))
          case measure => simp [intOf]; omega
      · have hk' : k = 100 := by omega
        subst hk'
        go_wp2
        go_ret
        refine ⟨_, rfl, ?_, hext.out, hblk.out⟩
        exact hown.out
    · go_wp2
      go_ret
      refine ⟨_, rfl, ?_, hext.out, hblk.out⟩
      have hkl : k = l.length := by omega
      have := hown.out
      unfold fewL
      rw [List.take_of_length_le (by omega)] at this ⊢
      exact this
end Go.Proofs.Ytfnchpjiebojiaa
