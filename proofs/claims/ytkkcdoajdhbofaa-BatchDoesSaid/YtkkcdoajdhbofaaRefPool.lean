/-
  rostrumref12.Pool: where it lies; ahead, Is, at, Batch.
-/
import Derived.Test.YtkkcdoajdhbofaaOpsI
import Derived.Test.YtkkcdoajdhbofaaPool
import Derived.Test.YtkkcdoajdhbofaaFew
namespace Go.Proofs.Ytkkcdoajdhbofaa
open Go.RowKit
attribute [local go_sem] Oper.semAt_some

/-! ### a slice without its head -/
def sdropV (A : Option Addr) (n cap i : Nat) : Value := .slice (if cap = i then A else A.map (·.add (i * 3))) (n - i) (cap - i)
theorem add_at' (b off n : Nat) : (⟨b, off, none⟩ : Addr).add n = ⟨b, off + n, none⟩ := by
  unfold Addr.add
  by_cases h : n = 0
  · simp [h]
  · simp [h]
theorem add_blk (a : Addr) (n : Nat) : (a.add n).block = a.block := by
  unfold Addr.add
  by_cases h : n = 0
  · simp [h]
  · simp [h]
theorem Sl.drop {w : World} {A : Option Addr} {cap : Nat} {l : List Ms} (h : MsL w (.slice A l.length cap) l) (i : Nat) (hi : i ≤ l.length) : MsL w (sdropV A l.length cap i) (l.drop i) := by
  obtain ⟨A', cap', e, h1, h2, h3⟩ := h
  injection e with e1 e2 e3
  subst e1; subst e3
  refine ⟨_, cap - i, by unfold sdropV; rw [List.length_drop], by rw [List.length_drop]; omega, by omega, fun hne => ?_⟩
  have hil : i < l.length := by
    refine Classical.byContradiction fun h => hne ?_
    exact List.drop_eq_nil_of_le (by omega)
  obtain ⟨b, off, rfl, hb, hc⟩ := h3 (fun e => by rw [e] at hil; simp at hil)
  refine ⟨b, off + i * 3, by rw [if_neg (by omega)]; exact congrArg some (add_at' b off (i * 3)), hb, fun j m hj k u hu => ?_⟩
  rw [List.getElem?_drop] at hj
  have := hc (i + j) m hj k u hu
  rw [← this]; congr 2; rw [Nat.add_mul]; omega
theorem sdrop_own (A : Option Addr) (n cap i x : Nat) (h : (sdropV A n cap i).ownBlock = some x) : (Value.slice A n cap).ownBlock = some x := by
  unfold sdropV at h
  cases A with
  | none => split at h <;> simp [Value.ownBlock] at h
  | some a => split at h <;> simpa [Value.ownBlock, add_blk] using h
section
variable {ρ : Operand → Value} {d : Option Tmp} {x y : Operand} {t : TypeId} {s : String} {af : Array Edge} {g : Option (Nat × Bool)}
theorem op_drop (A : Option Addr) (n cap i : Nat) (j : Int) (hx : ρ x = .slice A n cap) (hy : ρ y = .int .i64 j) (hj : j = i) (h : i ≤ n) (w : World) :
    (execOp ρ ⟨d, .slice 30 x (some y) none none, t, s, af, g⟩).run Try.prog w = .ok (.value (sdropV A n cap i)) w := by
  subst hj
  have hI : (i : Int) ≤ (n : Int) := by omega
  have h1 : (Instr.sliceAt 30 (.slice A n cap) (some (.int .i64 i)) none none).run Try.prog w = .ok (sdropV A n cap i) w := by
    unfold sdropV
    first | (go_simp; done) | (go_simp; rfl)
  simp only [execOp, hx, hy, Option.map_some, Option.map_none, Sem.run_bind, h1, Result.andThen_ok]
  first | rfl | simp [Sem.run]
theorem op_takeS (A : Option Addr) (n cap i : Nat) (j : Int) (hx : ρ x = .slice A n cap) (hy : ρ y = .int .i64 j) (hj : j = i) (h : i ≤ cap) (w : World) :
    (execOp ρ ⟨d, .slice 30 x none (some y) none, t, s, af, g⟩).run Try.prog w = .ok (.value (.slice A i cap)) w := by
  subst hj
  have hI : (i : Int) ≤ (cap : Int) := by omega
  have h1 : (Instr.sliceAt 30 (.slice A n cap) none (some (.int .i64 i)) none).run Try.prog w = .ok (.slice A i cap) w := by
    first | (go_simp; done) | (go_simp; rfl)
  simp only [execOp, hx, hy, Option.map_some, Option.map_none, Sem.run_bind, h1, Result.andThen_ok]
  first | rfl | simp [Sem.run]
end

/-! ### where it lies -/
def rvF (pv dv : Value) (i : Nat) : Value := if i = 0 then pv else dv
structure RefV (w : World) (r : Nat) (pv dv : Value) (P : List Ms) (D : List (Int × Int)) : Prop where
  o : Obj_ w r 2 (rvF pv dv)
  p : OwnMs w pv P
  d : OwnId w dv D
  pr : ∀ x, pv.ownBlock = some x → x ≠ r
  dr : ∀ x, dv.ownBlock = some x → x ≠ r
  pd : ∀ x, pv.ownBlock = some x → dv.ownBlock ≠ some x
theorem RefV.mods {w w' : World} {r : Nat} {pv dv : Value} {P : List Ms} {D : List (Int × Int)} {S : Nat → Prop} (h : RefV w r pv dv P D) (he : Mods S w w') (h0 : ¬ S r) (h1 : ∀ x, pv.ownBlock = some x → ¬ S x) (h2 : ∀ x, dv.ownBlock = some x → ¬ S x) : RefV w' r pv dv P D :=
  ⟨h.o.mods he h0, h.p.mods he h1, h.d.mods he h2, h.pr, h.dr, h.pd⟩
theorem RefV.ext {w w' : World} {r : Nat} {pv dv : Value} {P : List Ms} {D : List (Int × Int)} (h : RefV w r pv dv P D) (he : Ext w w') : RefV w' r pv dv P D := ⟨h.o.ext he, h.p.ext he, h.d.ext he, h.pr, h.dr, h.pd⟩
theorem RefV.ps {w : World} {r : Nat} {pv dv : Value} {P : List Ms} {D : List (Int × Int)} (h : RefV w r pv dv P D) : MsL w pv P := h.p.sl Ms.len
theorem RefV.cells {w : World} {r : Nat} {pv dv : Value} {P : List Ms} {D : List (Int × Int)} (h : RefV w r pv dv P D) : w.cell? ⟨r, 0, none⟩ = some pv ∧ w.cell? ⟨r, 1, none⟩ = some dv ∧ r < w.heap.size := ⟨h.o.cell 0 (by decide), h.o.cell 1 (by decide), h.o.lt⟩

def ltI (a b : Int × Int) : Bool := decide (a.1 < b.1 ∨ a.1 = b.1 ∧ a.2 < b.2)
theorem ltK_key' (x y : Ms) : ltK x y = ltI (keyM x) (keyM y) := rfl
theorem ahead_ref (w : World) (a b : Int × Int) : Calls Try.prog 29 #[idV a, idV b] w fun e w' => e = .returned (.bool (ltI a b)) ∧ Ext w w' := by
  obtain ⟨af, ac⟩ := a
  obtain ⟨bf, bc⟩ := b
  have E1 := Ext.alloc w (.cells #[.int .i64 af, .int .u32 ac] 25)
  have b1 := box_Id w af ac
  have E2 := Ext.alloc (w.alloc (.cells #[.int .i64 af, .int .u32 ac] 25)) (.cells #[.int .i64 bf, .int .u32 bc] 25)
  have b2 := box_Id (w.alloc (.cells #[.int .i64 af, .int .u32 ac] 25)) bf bc
  have b1' := b1.ext E2
  have s1 : (w.alloc (.cells #[.int .i64 af, .int .u32 ac] 25)).heap.size = w.heap.size + 1 := by simp
  rw [s1] at b2
  have a0 := b1'.cell 0 (by decide)
  have a1 := b1'.cell 1 (by decide)
  have c0 := b2.cell 0 (by decide)
  have c1 := b2.cell 1 (by decide)
  simp only [idF, List.getD_cons_zero, List.getD_cons_succ] at a0 a1 c0 c1
  have HE := Lib.hid (E1.trans E2)
  obtain ⟨r, hr⟩ : ∃ r, ltI (af, ac) (bf, bc) = r := ⟨_, rfl⟩
  have hway : (af < bf ∧ r = true) ∨ (¬ af < bf ∧ ¬ af = bf ∧ r = false) ∨ (¬ af < bf ∧ af = bf ∧ r = decide (ac < bc)) := by
    rw [← hr]
    unfold ltI
    by_cases h1 : af < bf
    · exact .inl ⟨h1, by simp [h1]⟩
    · by_cases h2 : af = bf
      · exact .inr (.inr ⟨h1, h2, by simp [h2]⟩)
      · exact .inr (.inl ⟨h1, h2, by simp [h1, h2]⟩)
  rw [hr]
  clear E1 E2 b1 b1' b2 hr
  unfold idV
  simp only
  rcases hway with ⟨h1, rfl⟩ | ⟨h1, h2, rfl⟩ | ⟨h1, rfl, rfl⟩
  · go_enter Try.func29, Try.ntmps29
    go_wp2
    go_ret
    exact ⟨rfl, HE.out⟩
  · have h3 : (af == bf) = false := by simp [h2]
    go_enter Try.func29, Try.ntmps29
    go_wp2
    go_ret
    exact ⟨rfl, HE.out⟩
  · have h3 : (af == af) = true := by simp
    go_enter Try.func29, Try.ntmps29
    go_wp2
    go_ret
    exact ⟨rfl, HE.out⟩

set_option maxRecDepth 100000 in
set_option maxHeartbeats 1600000 in
theorem is_ref {w : World} {r : Nat} {pv dv : Value} {P : List Ms} {D : List (Int × Int)} (h : RefV w r pv dv P D) (hDl : D.length ≤ 1000000) (f c : Int) : Calls Try.prog 22 #[.pointer (some ⟨r, 0, none⟩), .agg #[.int .i64 f, .int .u32 c]] w fun e w' => e = .returned (.bool (decide ((f, c) ∈ D))) ∧ Ext w w' := by
  have hE0 := Ext.alloc w (.cells #[.int .i64 f, .int .u32 c] 25)
  have hbx := box_Id w f c
  have e0 := hbx.cell 0 (by decide)
  have e1 := hbx.cell 1 (by decide)
  have el := hbx.lt
  simp only [idF, List.getD_cons_zero, List.getD_cons_succ] at e0 e1
  have H := Lib.hid (h.ext hE0)
  have HE := Lib.hid hE0
  have HB := Lib.hid hbx
  obtain ⟨A, cap, rfl, -⟩ := h.d.val
  obtain ⟨x0, x1, lb⟩ := (h.ext hE0).cells
  obtain ⟨R, hR⟩ : ∃ R, decide ((f, c) ∈ D) = R := ⟨_, rfl⟩
  have HR := Lib.hid hR
  rw [hR]
  clear h hE0 hbx hR
  go_enter Try.func22, Try.ntmps22
  generalize hW : w.alloc (.cells #[.int .i64 f, .int .u32 c] 25) = W at *
  go_upto_region 1 with fail
  clear x0 x1 e0 e1
  go_wp2
  go_loopw [5] (fun i wr => ∃ k : Nat, k ≤ D.length ∧ i = .int .i64 k ∧ Hid ((f, c) ∉ D.take k) ∧ Hid (Ext W wr)) (fun i _ => D.length - (intOf i).toNat)
  case atStart => exact ⟨0, Nat.zero_le _, rfl, Lib.hid (by simp), Lib.hid (Ext.refl _)⟩
  case round =>
    obtain ⟨k, hk, rfl, hno, hE⟩ := hrel
    obtain ⟨x0, x1, lb⟩ := (H.out.ext hE.out).cells
    have hbk := HB.out.ext hE.out
    have e0 := hbk.cell 0 (by decide)
    have e1 := hbk.cell 1 (by decide)
    have el := hbk.lt
    simp only [idF, List.getD_cons_zero, List.getD_cons_succ] at e0 e1
    clear hbk
    by_cases hlt : k < D.length
    · have hwk : IntKind.i64.wrap ((k : Int) + 1) = (k : Int) + 1 := IntWalk.i64_in _ ⟨by omega, by omega⟩
      obtain ⟨db, doff, he, hdbl, d0, d1⟩ := Sl.at2 ((H.out.ext hE.out).d.sl idE_len) hlt
      subst he
      obtain ⟨id, hid⟩ : ∃ id, D[k] = id := ⟨_, rfl⟩
      rw [hid] at d0 d1
      obtain ⟨q, hq⟩ : ∃ q, decide (id = (f, c)) = q := ⟨_, rfl⟩
      have Hid' := Lib.hid hid
      have Hq := Lib.hid hq
      clear hid hq
      go_upto_region 4 with fail
      refine wp_region_plan [(0,0),(1,0),(2,0),(3,1),(4,0),(5,0),(6,1),(7,1),(8,0)] (by kernel_rfl) (by kernel_rfl) (by kernel_rfl) (Ext wr) (fun _ _ h k => h.trans k) (Ext.drawn _ _) ?_
      iterate 6
        first
          | refine Fx.skip rfl rfl (by simp only [List.set_cons_zero, List.set_cons_succ]; rfl) ?_
          | (with_reducible refine Fx.lab0 ?_
             first
               | refine Fx.moveT rfl rfl rfl (by simp only [List.set_cons_zero, List.set_cons_succ]; rfl) ?_
               | refine Fx.assignT rfl rfl rfl (by simp only [List.set_cons_zero, List.set_cons_succ]; rfl) ?_
               | refine Fx.pure_ rfl rfl (fun _ => by go_simp; first | done | rfl) (by simp only [List.set_cons_zero, List.set_cons_succ]; rfl) ?_)
          | (with_reducible refine Fx.lab1 ?_
             refine Fx.look rfl rfl (fun w' hC => by obtain ⟨hc, hf, hl⟩ := Ext.cells hC; go_simp; rfl) (by simp only [List.set_cons_zero, List.set_cons_succ]; rfl) ?_)
      refine Fx.look rfl rfl (op_load_Id' hdbl d0 d1 rfl) (by simp only [List.set_cons_zero, List.set_cons_succ]; rfl) ?_
      refine Fx.look rfl rfl (op_load_Id' (f := f) (c := c) el e0 e1 rfl) (by simp only [List.set_cons_zero, List.set_cons_succ]; rfl) ?_
      refine Fx.pure_ (v := .bool q) rfl rfl (fun w => by rw [op_eql_Id id (f, c) rfl rfl, Hq.out]) (by simp only [List.set_cons_zero, List.set_cons_succ]; rfl) ?_
      refine Fx.done (fun w2 hC => ?_)
      have HC := Lib.hid (hE.out.trans hC)
      clear hC d0 d1 x0 x1 e0 e1
      cases q with
      | true =>
        have hR : R = true := by
          rw [← HR.out, decide_eq_true_iff]
          have := of_decide_eq_true Hq.out
          rw [← this, ← Hid'.out]; exact List.getElem_mem _
        subst hR
        go_wp2
        go_ret
        exact ⟨rfl, HE.out.trans HC.out⟩
      | false =>
        have hno' : (f, c) ∉ D.take (k + 1) := by
          rw [List.take_succ_eq_append_getElem hlt, Hid'.out]
          intro hm
          rcases List.mem_append.1 hm with hm | hm
          · exact hno.out hm
          · simp only [List.mem_cons, List.not_mem_nil, or_false] at hm
            exact of_decide_eq_false Hq.out hm.symm
        have Hno := Lib.hid hno'
        clear hno'
        go_wp2
        go_roundw
        case rel => exact ⟨k + 1, by omega, by go_num, Hno, HC⟩
        case measure => simp [intOf]; omega
    · have hR : R = false := by
        rw [← HR.out, decide_eq_false_iff_not]
        have := hno.out
        rwa [List.take_of_length_le (by omega)] at this
      subst hR
      go_wp2
      go_ret
      exact ⟨rfl, HE.out.trans hE.out⟩

def keyB (k : Int × Int) (m : Ms) : Bool := decide (keyM m = k)
def atI (l : List Ms) (k : Int × Int) : Int := if l.findIdx (keyB k) < l.length then (l.findIdx (keyB k) : Int) else -1
set_option maxRecDepth 100000 in
set_option maxHeartbeats 1600000 in
theorem at_ref {w : World} {r : Nat} {pv dv : Value} {P : List Ms} {D : List (Int × Int)} (h : RefV w r pv dv P D) (hPl : P.length ≤ 1000000) (f c : Int) : Calls Try.prog 28 #[.pointer (some ⟨r, 0, none⟩), .agg #[.int .i64 f, .int .u32 c]] w fun e w' => e = .returned (.int .i64 (atI P (f, c))) ∧ Ext w w' := by
  have hE0 := Ext.alloc w (.cells #[.int .i64 f, .int .u32 c] 25)
  have hbx := box_Id w f c
  have e0 := hbx.cell 0 (by decide)
  have e1 := hbx.cell 1 (by decide)
  have el := hbx.lt
  simp only [idF, List.getD_cons_zero, List.getD_cons_succ] at e0 e1
  have H := Lib.hid (h.ext hE0)
  have HE := Lib.hid hE0
  have HB := Lib.hid hbx
  obtain ⟨A, cap, rfl, -⟩ := h.p.val
  obtain ⟨x0, x1, lb⟩ := (h.ext hE0).cells
  obtain ⟨R, hR⟩ : ∃ R, atI P (f, c) = R := ⟨_, rfl⟩
  have HR := Lib.hid hR
  rw [hR]
  clear h hE0 hbx hR
  go_enter Try.func28, Try.ntmps28
  generalize hW : w.alloc (.cells #[.int .i64 f, .int .u32 c] 25) = W at *
  go_upto_region 1 with fail
  clear x0 x1 e0 e1
  go_wp2
  go_loopw [5] (fun i wr => ∃ k : Nat, k ≤ P.length ∧ i = .int .i64 k ∧ Hid (∀ j, (hj : j < k) → (hl : j < P.length) → keyM P[j] ≠ (f, c)) ∧ Hid (Ext W wr)) (fun i _ => P.length - (intOf i).toNat)
  case atStart => exact ⟨0, Nat.zero_le _, rfl, Lib.hid (fun j hj => by omega), Lib.hid (Ext.refl _)⟩
  case round =>
    obtain ⟨k, hk, rfl, hno, hE⟩ := hrel
    obtain ⟨x0, x1, lb⟩ := (H.out.ext hE.out).cells
    have hbk := HB.out.ext hE.out
    have e0 := hbk.cell 0 (by decide)
    have e1 := hbk.cell 1 (by decide)
    have el := hbk.lt
    simp only [idF, List.getD_cons_zero, List.getD_cons_succ] at e0 e1
    clear hbk
    by_cases hlt : k < P.length
    · have hwk : IntKind.i64.wrap ((k : Int) + 1) = (k : Int) + 1 := IntWalk.i64_in _ ⟨by omega, by omega⟩
      obtain ⟨db, doff, he, hdbl, d0, d1, d2⟩ := Sl.at3 (H.out.ext hE.out).ps hlt
      subst he
      obtain ⟨m, hm⟩ : ∃ m, P[k] = m := ⟨_, rfl⟩
      rw [hm] at d0 d1 d2
      obtain ⟨q, hq⟩ : ∃ q, decide ((m.f, m.c) = (f, c)) = q := ⟨_, rfl⟩
      have Hm := Lib.hid hm
      have Hq := Lib.hid hq
      clear hm hq d2
      go_upto_region 4 with fail
      refine wp_region_plan [(0,0),(1,0),(2,0),(3,1),(4,0),(5,0),(6,0),(7,1),(8,1),(9,0)] (by kernel_rfl) (by kernel_rfl) (by kernel_rfl) (Ext wr) (fun _ _ h k => h.trans k) (Ext.drawn _ _) ?_
      iterate 7
        first
          | refine Fx.skip rfl rfl (by simp only [List.set_cons_zero, List.set_cons_succ]; rfl) ?_
          | (with_reducible refine Fx.lab0 ?_
             first
               | refine Fx.moveT rfl rfl rfl (by simp only [List.set_cons_zero, List.set_cons_succ]; rfl) ?_
               | refine Fx.assignT rfl rfl rfl (by simp only [List.set_cons_zero, List.set_cons_succ]; rfl) ?_
               | refine Fx.pure_ rfl rfl (fun _ => by go_simp; first | done | rfl) (by simp only [List.set_cons_zero, List.set_cons_succ]; rfl) ?_)
          | (with_reducible refine Fx.lab1 ?_
             refine Fx.look rfl rfl (fun w' hC => by obtain ⟨hc, hf, hl⟩ := Ext.cells hC; go_simp; rfl) (by simp only [List.set_cons_zero, List.set_cons_succ]; rfl) ?_)
      refine Fx.look rfl rfl (op_load_Id' (f := m.f) (c := m.c) hdbl d0 d1 rfl) (by simp only [List.set_cons_zero, List.set_cons_succ]; rfl) ?_
      refine Fx.look rfl rfl (op_load_Id' (f := f) (c := c) el e0 e1 rfl) (by simp only [List.set_cons_zero, List.set_cons_succ]; rfl) ?_
      refine Fx.pure_ (v := .bool q) rfl rfl (fun w => by rw [op_eql_Id (m.f, m.c) (f, c) rfl rfl, Hq.out]) (by simp only [List.set_cons_zero, List.set_cons_succ]; rfl) ?_
      refine Fx.done (fun w2 hC => ?_)
      have HC := Lib.hid (hE.out.trans hC)
      clear hC d0 d1 x0 x1 e0 e1
      cases q with
      | true =>
        have hR : R = k := by
          have hf : P.findIdx (keyB (f, c)) = k := by
            rw [List.findIdx_eq hlt]
            refine ⟨by rw [Hm.out]; exact Hq.out, fun j hj => ?_⟩
            unfold keyB
            exact decide_eq_false (hno.out j hj (by omega))
          rw [← HR.out]; unfold atI; rw [hf, if_pos hlt]
        subst hR
        go_wp2
        go_ret
        exact ⟨rfl, HE.out.trans HC.out⟩
      | false =>
        have hno' : ∀ j, (hj : j < k + 1) → (hl : j < P.length) → keyM P[j] ≠ (f, c) := by
          intro j hj hl
          by_cases hjk : j < k
          · exact hno.out j hjk hl
          · obtain rfl : j = k := by omega
            rw [Hm.out]
            exact of_decide_eq_false Hq.out
        have Hno := Lib.hid hno'
        clear hno'
        go_wp2
        go_roundw
        case rel => exact ⟨k + 1, by omega, by go_num, Hno, HC⟩
        case measure => simp [intOf]; omega
    · have hR : R = -1 := by
        have hf : P.findIdx (keyB (f, c)) = P.length := by
          rw [List.findIdx_eq_length]
          intro x hx
          obtain ⟨j, hj, rfl⟩ := List.getElem_of_mem hx
          unfold keyB
          exact decide_eq_false (hno.out j (by omega) hj)
        rw [← HR.out]; unfold atI; rw [hf, if_neg (by omega)]
      subst hR
      go_wp2
      go_ret
      exact ⟨rfl, HE.out.trans hE.out⟩

def BatchF (w : World) (P : List Ms) (n : Int) (e : Ending) (w' : World) : Prop := ∃ nv, e = .returned (.tuple #[nv, .int .i64 (batchE n)]) ∧ MsL w' nv (if 1 ≤ n ∧ n ≤ 64 then P.take n.toNat else []) ∧ Ext w w'
set_option maxRecDepth 100000 in
theorem batch_ref {w : World} {r : Nat} {pv dv : Value} {P : List Ms} {D : List (Int × Int)} (h : RefV w r pv dv P D) (hPl : P.length ≤ 1000000) (n : Int) : Calls Try.prog 16 #[.pointer (some ⟨r, 0, none⟩), .int .i64 n] w (BatchF w P n) := by
  by_cases hn : 1 ≤ n ∧ n ≤ 64
  · obtain ⟨hn1, hn2⟩ := hn
    have he : batchE n = 0 := by unfold batchE; rw [if_pos ⟨hn1, hn2⟩]
    obtain ⟨A, cap, rfl, hcap, -⟩ := h.p.val
    obtain ⟨x0, x1, lb⟩ := h.cells
    obtain ⟨N, hN⟩ : ∃ N : Nat, n = N := ⟨n.toNat, by omega⟩
    subst hN
    obtain ⟨mn, hmn⟩ : ∃ mn, min N P.length = mn := ⟨_, rfl⟩
    have hmi : min (N : Int) (P.length : Int) = (mn : Int) := by omega
    have htk : P.take N = P.take mn := by rw [← hmn]; exact List.take_eq_take_min ..
    have hS := h.ps.take mn (by omega)
    rw [← htk] at hS
    have HS := Lib.hid hS
    have He := Lib.hid he
    have hng : ¬ (N : Int) < 1 := by omega
    have hng2 : ¬ (64 : Int) < N := by omega
    have hmc : mn ≤ cap := by omega
    clear h hS he htk hmn
    go_enter Try.func16, Try.ntmps16
    go_upto_region 3 with fail
    refine wp_region_plan [(0,0),(1,0),(2,0),(4,0),(5,0),(6,0),(7,0),(8,1),(9,0),(10,0),(3,1),(11,0),(12,0),(13,0)] (by kernel_rfl) (by kernel_rfl) (by kernel_rfl) (Ext w) (fun _ _ h k => h.trans k) (Ext.drawn _ _) ?_
    iterate 11
      first
        | refine Fx.skip rfl rfl (by simp only [List.set_cons_zero, List.set_cons_succ]; rfl) ?_
        | (with_reducible refine Fx.lab0 ?_
           first
             | refine Fx.moveT rfl rfl rfl (by simp only [List.set_cons_zero, List.set_cons_succ]; rfl) ?_
             | refine Fx.assignT rfl rfl rfl (by simp only [List.set_cons_zero, List.set_cons_succ]; rfl) ?_
             | refine Fx.pure_ rfl rfl (fun _ => by go_simp; first | done | rfl) (by simp only [List.set_cons_zero, List.set_cons_succ]; rfl) ?_)
        | (with_reducible refine Fx.lab1 ?_
           refine Fx.look rfl rfl (fun w' hC => by obtain ⟨hc, hf, hl⟩ := Ext.cells hC; go_simp; rfl) (by simp only [List.set_cons_zero, List.set_cons_succ]; rfl) ?_)
    refine Fx.pure_ rfl rfl (fun w => op_takeS A P.length cap mn mn rfl rfl rfl hmc w) (by simp only [List.set_cons_zero, List.set_cons_succ]; rfl) ?_
    iterate 2
      first
        | refine Fx.skip rfl rfl (by simp only [List.set_cons_zero, List.set_cons_succ]; rfl) ?_
        | (with_reducible refine Fx.lab0 ?_
           first
             | refine Fx.moveT rfl rfl rfl (by simp only [List.set_cons_zero, List.set_cons_succ]; rfl) ?_
             | refine Fx.assignT rfl rfl rfl (by simp only [List.set_cons_zero, List.set_cons_succ]; rfl) ?_
             | refine Fx.pure_ rfl rfl (fun _ => by go_simp; first | done | rfl) (by simp only [List.set_cons_zero, List.set_cons_succ]; rfl) ?_)
        | (with_reducible refine Fx.lab1 ?_
           refine Fx.look rfl rfl (fun w' hC => by obtain ⟨hc, hf, hl⟩ := Ext.cells hC; go_simp; rfl) (by simp only [List.set_cons_zero, List.set_cons_succ]; rfl) ?_)
    refine Fx.done (fun w2 hC => ?_)
    have HC := Lib.hid hC
    clear hC x0 x1
    go_wp2
    go_ret2
    exact ⟨_, by rw [He.out]; rfl, by rw [if_pos ⟨hn1, hn2⟩]; exact HS.out.ext HC.out, HC.out⟩
  · have he : batchE n = 2 := by unfold batchE; rw [if_neg hn]
    have He := Lib.hid he
    have hw : n < 1 ∨ (¬ n < 1 ∧ 64 < n) := by omega
    clear he
    rcases hw with h1 | ⟨h1, h2⟩
    all_goals
      go_enter Try.func16, Try.ntmps16
      go_wp2
      go_ret2
      exact ⟨_, by rw [He.out]; rfl, by rw [if_neg hn]; exact (Own.nil (e := 41)).sl Ms.len, Ext.refl _⟩
end Go.Proofs.Ytkkcdoajdhbofaa
