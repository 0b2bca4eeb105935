/-
  rostrumref12.Pool: Done.
-/
import Derived.Test.YtkkcdoajdhbofaaRefAdd
import Derived.Test.YtkkcdoajdhbofaaDone
namespace Go.Proofs.Ytkkcdoajdhbofaa
open Go.RowKit
attribute [local go_sem] Oper.semAt_some

structure RDg (w : World) (r : Nat) (pv0 dv0 : Value) (P : List Ms) (D : List (Int × Int)) (N : List Ms) (pv dv nv : Value) (W : World) : Prop where
  v : RefV W r pv dv P D
  n : OwnMs W nv N
  hr : r < w.heap.size
  m : Mods (fun x => x = r ∨ dv0.ownBlock = some x) w W
  fp : ∀ x, pv.ownBlock = some x → pv0.ownBlock = some x ∨ w.heap.size ≤ x
  fd : ∀ x, dv.ownBlock = some x → dv0.ownBlock = some x ∨ w.heap.size ≤ x
  fn : ∀ x, nv.ownBlock = some x → w.heap.size ≤ x ∧ pv.ownBlock ≠ some x ∧ dv.ownBlock ≠ some x
section
variable {w W W1 W2 : World} {r : Nat} {pv0 dv0 pv dv nv : Value} {P : List Ms} {D : List (Int × Int)} {N : List Ms}
theorem RDg.ext (h : RDg w r pv0 dv0 P D N pv dv nv W) (he : Ext W W1) : RDg w r pv0 dv0 P D N pv dv nv W1 := ⟨h.v.ext he, h.n.ext he, h.hr, h.m.then_ he, h.fp, h.fd, h.fn⟩
theorem RDg.putD (h : RDg w r pv0 dv0 P D N pv dv nv W) {dv' : Value} {D' : List (Int × Int)} (a1 : OwnId W1 dv' D') (a2 : Mods (fun c => dv.ownBlock = some c) W W1) (a3 : ∀ c, dv'.ownBlock = some c → dv.ownBlock = some c ∨ W.heap.size ≤ c) (st : Ext (W1.setCell ⟨r, 1, none⟩ dv') W2) :
    RDg w r pv0 dv0 P D' N pv dv' nv W2 := by
  have m1 : Mods (· = r) W1 W2 := (Mods.setCell W1 r 1 dv').then_ st
  have M : Mods (fun x => dv.ownBlock = some x ∨ x = r) W W2 := (a2.mono (T := fun x => dv.ownBlock = some x ∨ x = r) (fun x _ h => .inl h)).trans m1 (fun x _ h => .inr h)
  have hs := h.m.size
  have hr := h.hr
  have hdr : ∀ x, dv'.ownBlock = some x → x ≠ r := fun x hx e => (a3 x hx).elim (fun h1 => h.v.dr x h1 e) (fun h1 => by omega)
  refine ⟨⟨?_, h.v.p.mods M (fun x hx e => e.elim (h.v.pd x hx) (h.v.pr x hx)), a1.mods m1 (fun x hx e => hdr x hx e), h.v.pr, hdr, fun x hx e => ?_⟩, h.n.mods M (fun x hx e => e.elim (h.fn x hx).2.2 (fun e => by have := (h.fn x hx).1; omega)), hr, ?_, h.fp, fun x hx => ?_, fun x hx => ⟨(h.fn x hx).1, (h.fn x hx).2.1, fun e => ?_⟩⟩
  · exact (((h.v.o.mods a2 (fun e => h.v.dr r e rfl)).set (i := 1) (by decide) dv').ext st).congr (fun i hi => by
      match i, hi with
      | 0, _ => rfl
      | 1, _ => rfl)
  · rcases a3 x e with e1 | e1
    · exact h.v.pd x hx e1
    · have := h.v.p.lt hx; omega
  · exact h.m.trans M (fun x hx e => e.elim (fun e => (h.fd x e).elim .inr (fun e => by omega)) .inl)
  · rcases a3 x hx with e1 | e1
    · exact h.fd x e1
    · exact .inr (by omega)
  · rcases a3 x e with e1 | e1
    · exact (h.fn x hx).2.2 e1
    · have := h.n.lt hx; omega
theorem RDg.putN (h : RDg w r pv0 dv0 P D N pv dv nv W) {nv' : Value} {N' : List Ms} (a1 : OwnMs W1 nv' N') (a2 : Mods (fun c => nv.ownBlock = some c) W W1) (a3 : ∀ c, nv'.ownBlock = some c → nv.ownBlock = some c ∨ W.heap.size ≤ c) :
    RDg w r pv0 dv0 P D N' pv dv nv' W1 := by
  have hs := h.m.size
  have hr := h.hr
  refine ⟨h.v.mods a2 (fun e => by have := (h.fn r e).1; omega) (fun x hx e => (h.fn x e).2.1 hx) (fun x hx e => (h.fn x e).2.2 hx), a1, hr, h.m.trans a2 (fun x hx e => by have := (h.fn x e).1; omega), h.fp, h.fd, fun x hx => ?_⟩
  rcases a3 x hx with e1 | e1
  · exact h.fn x e1
  · exact ⟨by omega, fun e => by have := h.v.p.lt e; omega, fun e => by have := h.v.d.lt e; omega⟩
theorem RDg.putP (h : RDg w r pv0 dv0 P D N pv dv nv W) {pv' : Value} {P' : List Ms} (a1 : OwnMs W1 pv' P') (a2 : Ext W W1) (a3 : ∀ c, pv'.ownBlock = some c → W.heap.size ≤ c) (st : Ext (W1.setCell ⟨r, 0, none⟩ pv') W2) :
    RDg w r pv0 dv0 P' D N pv' dv nv W2 := by
  have m1 : Mods (· = r) W1 W2 := (Mods.setCell W1 r 0 pv').then_ st
  have hs := h.m.size
  have hr := h.hr
  have hpr : ∀ x, pv'.ownBlock = some x → x ≠ r := fun x hx e => by have := a3 x hx; omega
  refine ⟨⟨?_, a1.mods m1 (fun x hx e => hpr x hx e), (h.v.d.ext a2).mods m1 (fun x hx e => h.v.dr x hx e), hpr, h.v.dr, fun x hx e => by have := a3 x hx; have := h.v.d.lt e; omega⟩, (h.n.ext a2).mods m1 (fun x hx e => by have := (h.fn x hx).1; omega), hr, (h.m.then_ a2).trans m1 (fun x _ e => .inl e), fun x hx => .inr (by have := a3 x hx; omega), h.fd, fun x hx => ⟨(h.fn x hx).1, fun e => by have := a3 x e; have := h.n.lt hx; omega, (h.fn x hx).2.2⟩⟩
  exact (((h.v.o.ext a2).set (i := 0) (by decide) pv').ext st).congr (fun i hi => by
    match i, hi with
    | 0, _ => rfl
    | 1, _ => rfl)
end
def RDoneR (w : World) (r : Nat) (pv dv : Value) (D : List (Int × Int)) (σ : PSt) (l : List Ms) (e : Ending) (w' : World) : Prop :=
  ∃ nv pv' dv' D', e = .returned (.tuple #[nv, .int .i64 (doneE l)]) ∧ Tells (doneS σ l) (pend (doneS σ l)) D' ∧ D'.length ≤ D.length + l.length ∧ RDg w r pv dv (pend (doneS σ l)) D' (doneA σ l) pv' dv' nv w'
set_option maxRecDepth 100000 in
set_option maxHeartbeats 6400000 in
theorem done_ref {w : World} {r : Nat} {pv dv v : Value} {P : List Ms} {D : List (Int × Int)} {σ : PSt} (h : RefV w r pv dv P D) (hO : σ.Ok) (hT : Tells σ P D) (l : List Ms) (hl : MsL w v l) (hDl : D.length + l.length ≤ 1000000) (hv : ∀ x, v.ownBlock = some x → x ≠ r ∧ dv.ownBlock ≠ some x) :
    Calls Try.prog 19 #[.pointer (some ⟨r, 0, none⟩), v] w (RDoneR w r pv dv D σ l) := by
  have HL := Lib.hid hl
  obtain ⟨lA, lcap, rfl, -⟩ := hl.val
  have HV := Lib.hid hv
  have HO := Lib.hid hO
  have H := Lib.hid h
  have HD := Lib.hid hT.d
  obtain rfl : P = pend σ := hT.p
  have hrl := h.cells.2.2
  clear hl hv hO h hT
  go_enter Try.func19, Try.ntmps19
  go_upto_region 1 with fail
  go_wp2
  go_loopw [6] (fun q wr => ∃ (k : Nat), q = .int .i64 k ∧ k ≤ l.length ∧ Hid (∀ j, (hj : j < l.length) → j < k → rightB l[j] = true) ∧ Hid (Ext w wr)) (fun q _ => l.length - (intOf q).toNat)
  case atStart => exact ⟨0, rfl, Nat.zero_le _, Lib.hid (fun j _ hj => by omega), Lib.hid (Ext.refl _)⟩
  case round =>
    obtain ⟨k, rfl, hk, hal, hE⟩ := hrel
    by_cases hlt : k < l.length
    · obtain ⟨jb, joff, rfl, hjbl, j0, j1, j2⟩ := Sl.at3 (HL.out.ext hE.out) hlt
      have hwk : IntKind.i64.wrap ((k : Int) + 1) = (k : Int) + 1 := IntWalk.i64_in _ ⟨by omega, by omega⟩
      obtain ⟨m, hm⟩ : ∃ m, l[k] = m := ⟨_, rfl⟩
      rw [hm] at j0 j1 j2
      obtain ⟨R, hR⟩ : ∃ R, rightB m = R := ⟨_, rfl⟩
      have Hm := Lib.hid hm
      have HR := Lib.hid hR
      clear hm hR
      go_upto_region 4 with fail
      refine wp_region_line [(0,0),(1,0),(2,0),(3,1),(4,1),(5,0)] (by kernel_rfl) (by kernel_rfl) (Ext wr) (fun _ _ h k => h.trans k) (Ext.refl _) ?_
      iterate 3
        first
          | refine Fx.skip rfl rfl (by simp only [List.set_cons_zero, List.set_cons_succ]; rfl) ?_
          | (with_reducible refine Fx.lab0 ?_
             first
               | refine Fx.moveT rfl rfl rfl (by simp only [List.set_cons_zero, List.set_cons_succ]; rfl) ?_
               | refine Fx.assignT rfl rfl rfl (by simp only [List.set_cons_zero, List.set_cons_succ]; rfl) ?_
               | refine Fx.pure_ rfl rfl (fun _ => by go_simp; first | done | rfl) (by simp only [List.set_cons_zero, List.set_cons_succ]; rfl) ?_)
          | (with_reducible refine Fx.lab1 ?_
             refine Fx.look rfl rfl (fun w' hC => by obtain ⟨hc, hf, hl⟩ := Ext.cells hC; go_simp; rfl) (by simp only [List.set_cons_zero, List.set_cons_succ]; rfl) ?_)
      refine Fx.look rfl rfl (op_load_Ms' (m := m) hjbl j0 j1 j2 rfl) (by simp only [List.set_cons_zero, List.set_cons_succ]; rfl) ?_
      refine Fx.call1 (v := .bool R) (args := #[m.val]) rfl rfl (fun _ => by first | (go_simp; done) | (go_simp; rfl)) (fun w'' hC => (right_ref m w'').mono (fun e w3 hh => by rw [HR.out] at hh; exact hh)) (by simp only [List.set_cons_zero, List.set_cons_succ]; rfl) ?_
      first
        | refine Fx.skip rfl rfl (by simp only [List.set_cons_zero, List.set_cons_succ]; rfl) ?_
        | (with_reducible refine Fx.lab0 ?_
           first
             | refine Fx.moveT rfl rfl rfl (by simp only [List.set_cons_zero, List.set_cons_succ]; rfl) ?_
             | refine Fx.assignT rfl rfl rfl (by simp only [List.set_cons_zero, List.set_cons_succ]; rfl) ?_
             | refine Fx.pure_ rfl rfl (fun _ => by go_simp; first | done | rfl) (by simp only [List.set_cons_zero, List.set_cons_succ]; rfl) ?_)
        | (with_reducible refine Fx.lab1 ?_
           refine Fx.look rfl rfl (fun w' hC => by obtain ⟨hc, hf, hl⟩ := Ext.cells hC; go_simp; rfl) (by simp only [List.set_cons_zero, List.set_cons_succ]; rfl) ?_)
      refine Fx.done (fun w1 hC => ?_)
      have HC := Lib.hid (hE.out.trans hC)
      clear hC j0 j1 j2
      cases R with
      | true =>
        have hal' : ∀ j, (hj : j < l.length) → j < k + 1 → rightB l[j] = true := fun j hj hjk => by
          by_cases h : j < k
          · exact hal.out j hj h
          · obtain rfl : j = k := by omega
            rw [Hm.out]; exact HR.out
        have Hal := Lib.hid hal'
        clear hal'
        go_wp2
        go_roundw
        case rel => exact ⟨k + 1, by go_num, by omega, Hal, HC⟩
        case measure => simp [intOf]; omega
      | false =>
        have hno : rightL l = false := by
          unfold rightL
          rw [List.all_eq_false]
          exact ⟨m, by rw [← Hm.out]; exact List.getElem_mem _, by rw [HR.out]; simp⟩
        have HNo := Lib.hid hno
        clear hno
        go_wp2
        go_ret2
        have hs : doneS σ l = σ := by unfold doneS; rw [HNo.out]; rfl
        have ha : doneA σ l = [] := by unfold doneA; rw [HNo.out]; rfl
        refine ⟨.slice none 0 0, pv, dv, D, by unfold doneE; rw [HNo.out]; rfl, by rw [hs]; exact ⟨rfl, HD.out⟩, by omega, ?_⟩
        rw [hs, ha]
        exact ⟨H.out.ext HC.out, Own.nil, hrl, HC.out.mods _, fun _ h => .inl h, fun _ h => .inl h, fun x hx => by simp [Value.ownBlock] at hx⟩
    · have hri : rightL l = true := by
        unfold rightL
        rw [List.all_eq_true]
        intro x hx
        obtain ⟨j, hj, rfl⟩ := List.getElem_of_mem hx
        exact hal.out j hj (by omega)
      have HRi := Lib.hid hri
      have HIn : Hid (RDg w r pv dv (pend σ) D [] pv dv (.slice none 0 0) wr) := Lib.hid ⟨H.out.ext hE.out, Own.nil, hrl, hE.out.mods _, fun _ h => .inl h, fun _ h => .inl h, fun x hx => by simp [Value.ownBlock] at hx⟩
      clear hri hal hE
      go_wp2
      go_loopw [8, 9] (fun v8 q wx => ∃ (k : Nat) (nv pv' dv' : Value) (D' : List (Int × Int)), nv = v8 ∧ q = .int .i64 k ∧ k ≤ l.length ∧ D'.length ≤ D.length + k ∧ Hid (∀ j, decide (j ∈ D') = isB (doneN σ (l.take k)) j) ∧ Hid (RDg w r pv dv (pend (doneN σ (l.take k))) D' (doneL σ (l.take k)) pv' dv' nv wx)) (fun _ q _ => l.length - (intOf q).toNat)
      case atStart => exact ⟨0, _, pv, dv, D, rfl, rfl, Nat.zero_le _, by omega, Lib.hid (by simpa [doneN] using HD.out), HIn⟩
      case round =>
        clear HIn
        obtain ⟨k, nv, pv', dv', D', rfl, rfl, hk, hDk, hDt, hI⟩ := hrel
        by_cases hlt : k < l.length
        · have hSl := HL.out.mods hI.out.m (fun x hx e => e.elim (HV.out x hx).1 (HV.out x hx).2)
          obtain ⟨jb, joff, rfl, hjbl, j0, j1, j2⟩ := Sl.at3 hSl hlt
          have HSl := Lib.hid hSl
          have hn := doneN_take σ l k hlt
          have hd := doneL_take σ l k hlt
          have hdl := doneL_len (l.take k) σ
          rw [List.length_take] at hdl
          have hdl2 : (doneL σ (l.take k)).length + 1 ≤ 1000001 := by omega
          obtain ⟨m, hm⟩ : ∃ m, l[k] = m := ⟨_, rfl⟩
          rw [hm] at j0 j1 j2 hn hd
          have hτO : (doneN σ (l.take k)).Ok := doneN_ok HO.out
          obtain ⟨τ, hτ⟩ : ∃ τ, doneN σ (l.take k) = τ := ⟨_, rfl⟩
          rw [hτ] at hn hd hI hDt hτO
          obtain ⟨N, hN⟩ : ∃ N, doneL σ (l.take k) = N := ⟨_, rfl⟩
          rw [hN] at hd hI hdl2
          obtain ⟨q, hq⟩ : ∃ q, isB τ (keyM m) = q := ⟨_, rfl⟩
          rw [hq] at hd
          have Hqd : Hid (decide ((m.f, m.c) ∈ D') = q) := Lib.hid (by rw [hDt.out]; exact hq)
          have hpl : (pend τ).length ≤ 1000 := by rw [pend_len]; exact hτO.len
          have hp1 : q = false → pend (done1 τ m) = cutA (pend τ) (atI (pend τ) (m.f, m.c)) := fun h => pend_done1 hτO (by rw [hq, h])
          have hb1 : ∀ j, isB (done1 τ m) j = (decide (j = keyM m) || isB τ j) := isB_done1 τ m
          have hq1 : q = true → done1 τ m = τ := fun h => by unfold done1; rw [hq, h]; rfl
          have Hp1 := Lib.hid hp1
          have Hb1 := Lib.hid hb1
          have Hq1 := Lib.hid hq1
          have Hm := Lib.hid hm
          have Hn := Lib.hid hn
          have Hd := Lib.hid hd
          have HDl := Lib.hid hdl2
          have hwk : IntKind.i64.wrap ((k : Int) + 1) = (k : Int) + 1 := IntWalk.i64_in _ ⟨by omega, by omega⟩
          have hDl' : D'.length + 1 ≤ 1000000 := by omega
          obtain ⟨PP, hPP⟩ : ∃ PP, pend τ = PP := ⟨_, rfl⟩
          rw [hPP] at hI hpl Hp1
          obtain ⟨z, hz⟩ : ∃ z, atI PP (m.f, m.c) = z := ⟨_, rfl⟩
          have Hz := Lib.hid hz
          rw [hz] at Hp1
          have HPP := Lib.hid hPP
          clear hSl hn hd hdl hm hτ hN hq hdl2 hp1 hb1 hq1 hz hPP hτO
          go_upto_region 11 with fail
          refine wp_region_line [(0,0),(1,0),(2,0),(3,0),(4,0),(5,1),(6,1),(7,0)] (by kernel_rfl) (by kernel_rfl) (Ext wr) (fun _ _ h k => h.trans k) (Ext.refl _) ?_
          iterate 5
            first
              | refine Fx.skip rfl rfl (by simp only [List.set_cons_zero, List.set_cons_succ]; rfl) ?_
              | (with_reducible refine Fx.lab0 ?_
                 first
                   | refine Fx.moveT rfl rfl rfl (by simp only [List.set_cons_zero, List.set_cons_succ]; rfl) ?_
                   | refine Fx.assignT rfl rfl rfl (by simp only [List.set_cons_zero, List.set_cons_succ]; rfl) ?_
                   | refine Fx.pure_ rfl rfl (fun _ => by go_simp; first | done | rfl) (by simp only [List.set_cons_zero, List.set_cons_succ]; rfl) ?_)
              | (with_reducible refine Fx.lab1 ?_
                 refine Fx.look rfl rfl (fun w' hC => by obtain ⟨hc, hf, hl⟩ := Ext.cells hC; go_simp; rfl) (by simp only [List.set_cons_zero, List.set_cons_succ]; rfl) ?_)
          refine Fx.look rfl rfl (op_load_Id' (f := m.f) (c := m.c) hjbl j0 j1 rfl) (by simp only [List.set_cons_zero, List.set_cons_succ]; rfl) ?_
          refine Fx.call1 (v := .bool q) (args := #[.pointer (some ⟨r, 0, none⟩), .agg #[.int .i64 m.f, .int .u32 m.c]]) rfl rfl (fun _ => by first | (go_simp; done) | (go_simp; rfl)) (fun w' hC => (is_ref (hI.out.v.ext hC) (by omega) m.f m.c).mono (fun e w'' hh => by rw [Hqd.out] at hh; exact hh)) (by simp only [List.set_cons_zero, List.set_cons_succ]; rfl) ?_
          first
            | refine Fx.skip rfl rfl (by simp only [List.set_cons_zero, List.set_cons_succ]; rfl) ?_
            | (with_reducible refine Fx.lab0 ?_
               first
                 | refine Fx.moveT rfl rfl rfl (by simp only [List.set_cons_zero, List.set_cons_succ]; rfl) ?_
                 | refine Fx.assignT rfl rfl rfl (by simp only [List.set_cons_zero, List.set_cons_succ]; rfl) ?_
                 | refine Fx.pure_ rfl rfl (fun _ => by go_simp; first | done | rfl) (by simp only [List.set_cons_zero, List.set_cons_succ]; rfl) ?_)
            | (with_reducible refine Fx.lab1 ?_
               refine Fx.look rfl rfl (fun w' hC => by obtain ⟨hc, hf, hl⟩ := Ext.cells hC; go_simp; rfl) (by simp only [List.set_cons_zero, List.set_cons_succ]; rfl) ?_)
          refine Fx.done (fun w3 hC => ?_)
          have HI3 := Lib.hid (hI.out.ext hC)
          have HSl3 := Lib.hid (HSl.out.ext hC)
          clear hC j0 j1 j2 hjbl hI HSl
          cases q with
          | true =>
            go_wp2
            go_roundw
            case rel =>
              refine ⟨k + 1, _, pv', dv', D', rfl, by go_num, by omega, by omega, Lib.hid ?_, Lib.hid ?_⟩
              · intro j; rw [Hn.out, Hq1.out rfl]; exact hDt.out j
              · rw [Hn.out, Hd.out, Hq1.out rfl, HPP.out]; simpa using HI3.out
            case measure => simp [intOf]; omega
          | false =>
            obtain ⟨jb2, joff2, he, hjbl, j0, j1, j2⟩ := Sl.at3 HSl3.out hlt
            injection he with he
            injection he with he1 he2
            subst he1; subst he2
            rw [show l[k] = m from Hm.out] at j0 j1 j2
            obtain ⟨x0, x1, lb⟩ := HI3.out.v.cells
            obtain ⟨dA, dcap, hdv, -⟩ := HI3.out.v.d.val
            subst hdv
            have f1 := HI3.out.v.o.free 1
            go_upto_region 13 with fail
            refine wp_region_plan [(0,0),(1,0),(2,0),(3,0),(4,1),(5,0),(6,0),(7,0),(8,0),(9,1),(10,2),(11,3),(12,0),(13,0),(14,3)] (by kernel_rfl) (by kernel_rfl) (by kernel_rfl) (Ext w3) (fun _ _ h k => h.trans k) (Ext.drawn _ _) ?_
            iterate 9
              first
                | refine Fx.skip rfl rfl (by simp only [List.set_cons_zero, List.set_cons_succ]; rfl) ?_
                | (with_reducible refine Fx.lab0 ?_
                   first
                     | refine Fx.moveT rfl rfl rfl (by simp only [List.set_cons_zero, List.set_cons_succ]; rfl) ?_
                     | refine Fx.assignT rfl rfl rfl (by simp only [List.set_cons_zero, List.set_cons_succ]; rfl) ?_
                     | refine Fx.pure_ rfl rfl (fun _ => by go_simp; first | done | rfl) (by simp only [List.set_cons_zero, List.set_cons_succ]; rfl) ?_)
                | (with_reducible refine Fx.lab1 ?_
                   refine Fx.look rfl rfl (fun w' hC => by obtain ⟨hc, hf, hl⟩ := Ext.cells hC; go_simp; rfl) (by simp only [List.set_cons_zero, List.set_cons_succ]; rfl) ?_)
            refine Fx.look rfl rfl (op_load_Id' (f := m.f) (c := m.c) hjbl j0 j1 rfl) (by simp only [List.set_cons_zero, List.set_cons_succ]; rfl) ?_
            refine Fx.mkSl 1 1 (fun B w' => IdL w' (.slice (some ⟨B, 0, none⟩) 1 1) [keyM m]) (fun B _ _ h k => h.ext k) rfl rfl (fun w' hC => stepAt_lit1I hC (keyM m) rfl) (fun B2 => ?_)
            simp only [List.set_cons_zero, List.set_cons_succ]
            refine Fx.eff (fun v' w' => OwnId w' v' (D' ++ [keyM m]) ∧ Mods (fun c => Value.ownBlock (.slice dA D'.length dcap) = some c) w3 w' ∧ (∀ c, v'.ownBlock = some c → Value.ownBlock (.slice dA D'.length dcap) = some c ∨ w3.heap.size ≤ c)) (fun v _ _ h k => ⟨h.1.ext k, h.2.1.then_ k, h.2.2⟩) rfl rfl
              (fun w' hC => stepAt_appendI hC.1 (HI3.out.v.d.ext hC.1) hC.2 (by simp; omega) rfl rfl) (fun v1 => ?_)
            simp only [List.set_cons_zero, List.set_cons_succ]
            iterate 2
              first
                | refine Fx.skip rfl rfl (by simp only [List.set_cons_zero, List.set_cons_succ]; rfl) ?_
                | (with_reducible refine Fx.lab0 ?_
                   first
                     | refine Fx.moveT rfl rfl rfl (by simp only [List.set_cons_zero, List.set_cons_succ]; rfl) ?_
                     | refine Fx.assignT rfl rfl rfl (by simp only [List.set_cons_zero, List.set_cons_succ]; rfl) ?_
                     | refine Fx.pure_ rfl rfl (fun _ => by go_simp; first | done | rfl) (by simp only [List.set_cons_zero, List.set_cons_succ]; rfl) ?_)
                | (with_reducible refine Fx.lab1 ?_
                   refine Fx.look rfl rfl (fun w' hC => by obtain ⟨hc, hf, hl⟩ := Ext.cells hC; go_simp; rfl) (by simp only [List.set_cons_zero, List.set_cons_succ]; rfl) ?_)
            refine Fx.store ⟨r, 1, none⟩ v1 rfl rfl (fun w' hC => by
              obtain ⟨hc, hf, hl⟩ := hC.2.1.cells
              have hne : ¬ Value.ownBlock (.slice dA D'.length dcap) = some r := fun h => HI3.out.v.dr r h rfl
              have e1 := (hc r 1 lb hne).trans x1
              have e2 := (hf r 1 lb hne).trans f1
              obtain ⟨A3, n3, c3, rfl⟩ : ∃ A n cap, v1 = .slice A n cap := by obtain ⟨A, cap, e, _⟩ := hC.1.val; exact ⟨_, _, _, e⟩
              clear hc hf hl hC
              go_simp) ?_
            refine Fx.done (fun w5 hC => ?_)
            obtain ⟨w4, ⟨g1, g2, g3⟩, g4⟩ := hC
            have HI5 := Lib.hid (HI3.out.putD g1 g2 g3 g4)
            have hS5 := HL.out.mods HI5.out.m (fun x hx e => e.elim (HV.out x hx).1 (HV.out x hx).2)
            have HSl5 := Lib.hid hS5
            clear g1 g2 g3 g4 x0 x1 lb f1 j0 j1 j2 hjbl hS5
            obtain ⟨jb3, joff3, he, hjbl, j0, j1, j2⟩ := Sl.at3 HSl5.out hlt
            injection he with he
            injection he with he1 he2
            subst he1; subst he2
            rw [show l[k] = m from Hm.out] at j0 j1 j2
            go_upto_region 14 with fail
            refine wp_region_line [(0,0),(1,0),(2,0),(3,0),(4,1),(5,2),(6,3),(7,0)] (by kernel_rfl) (by kernel_rfl) (Ext w5) (fun _ _ h k => h.trans k) (Ext.refl _) ?_
            iterate 4
              first
                | refine Fx.skip rfl rfl (by simp only [List.set_cons_zero, List.set_cons_succ]; rfl) ?_
                | (with_reducible refine Fx.lab0 ?_
                   first
                     | refine Fx.moveT rfl rfl rfl (by simp only [List.set_cons_zero, List.set_cons_succ]; rfl) ?_
                     | refine Fx.assignT rfl rfl rfl (by simp only [List.set_cons_zero, List.set_cons_succ]; rfl) ?_
                     | refine Fx.pure_ rfl rfl (fun _ => by go_simp; first | done | rfl) (by simp only [List.set_cons_zero, List.set_cons_succ]; rfl) ?_)
                | (with_reducible refine Fx.lab1 ?_
                   refine Fx.look rfl rfl (fun w' hC => by obtain ⟨hc, hf, hl⟩ := Ext.cells hC; go_simp; rfl) (by simp only [List.set_cons_zero, List.set_cons_succ]; rfl) ?_)
            refine Fx.look rfl rfl (op_load_Ms' (m := m) hjbl j0 j1 j2 rfl) (by simp only [List.set_cons_zero, List.set_cons_succ]; rfl) ?_
            refine Fx.mkSl 1 1 (fun B w' => MsL w' (.slice (some ⟨B, 0, none⟩) 1 1) [m]) (fun B _ _ h k => h.ext k) rfl rfl (fun w' hC => stepAt_lit1 hC m rfl) (fun B3 => ?_)
            simp only [List.set_cons_zero, List.set_cons_succ]
            refine Fx.eff (fun v' w' => OwnMs w' v' (N ++ [m]) ∧ Mods (fun c => nv.ownBlock = some c) w5 w' ∧ (∀ c, v'.ownBlock = some c → nv.ownBlock = some c ∨ w5.heap.size ≤ c)) (fun v _ _ h k => ⟨h.1.ext k, h.2.1.then_ k, h.2.2⟩) rfl rfl
              (fun w' hC => stepAt_append hC.1 (HI5.out.n.ext hC.1) hC.2 (by have := HDl.out; simp; omega) rfl rfl) (fun lv' => ?_)
            simp only [List.set_cons_zero, List.set_cons_succ]
            first
              | refine Fx.skip rfl rfl (by simp only [List.set_cons_zero, List.set_cons_succ]; rfl) ?_
              | (with_reducible refine Fx.lab0 ?_
                 first
                   | refine Fx.moveT rfl rfl rfl (by simp only [List.set_cons_zero, List.set_cons_succ]; rfl) ?_
                   | refine Fx.assignT rfl rfl rfl (by simp only [List.set_cons_zero, List.set_cons_succ]; rfl) ?_
                   | refine Fx.pure_ rfl rfl (fun _ => by go_simp; first | done | rfl) (by simp only [List.set_cons_zero, List.set_cons_succ]; rfl) ?_)
              | (with_reducible refine Fx.lab1 ?_
                 refine Fx.look rfl rfl (fun w' hC => by obtain ⟨hc, hf, hl⟩ := Ext.cells hC; go_simp; rfl) (by simp only [List.set_cons_zero, List.set_cons_succ]; rfl) ?_)
            refine Fx.done (fun w6 hC => ?_)
            have HI6 := Lib.hid (HI5.out.putN hC.1 hC.2.1 hC.2.2)
            have hS6 := HL.out.mods HI6.out.m (fun x hx e => e.elim (HV.out x hx).1 (HV.out x hx).2)
            have HSl6 := Lib.hid hS6
            clear hC j0 j1 j2 hjbl hS6
            obtain ⟨jb4, joff4, he, hjbl, j0, j1, j2⟩ := Sl.at3 HSl6.out hlt
            injection he with he
            injection he with he1 he2
            subst he1; subst he2
            rw [show l[k] = m from Hm.out] at j0 j1 j2
            go_upto_region 15 with fail
            refine wp_region_line [(0,0),(1,0),(2,0),(3,0),(4,0),(5,1),(6,1),(7,0)] (by kernel_rfl) (by kernel_rfl) (Ext w6) (fun _ _ h k => h.trans k) (Ext.refl _) ?_
            iterate 5
              first
                | refine Fx.skip rfl rfl (by simp only [List.set_cons_zero, List.set_cons_succ]; rfl) ?_
                | (with_reducible refine Fx.lab0 ?_
                   first
                     | refine Fx.moveT rfl rfl rfl (by simp only [List.set_cons_zero, List.set_cons_succ]; rfl) ?_
                     | refine Fx.assignT rfl rfl rfl (by simp only [List.set_cons_zero, List.set_cons_succ]; rfl) ?_
                     | refine Fx.pure_ rfl rfl (fun _ => by go_simp; first | done | rfl) (by simp only [List.set_cons_zero, List.set_cons_succ]; rfl) ?_)
                | (with_reducible refine Fx.lab1 ?_
                   refine Fx.look rfl rfl (fun w' hC => by obtain ⟨hc, hf, hl⟩ := Ext.cells hC; go_simp; rfl) (by simp only [List.set_cons_zero, List.set_cons_succ]; rfl) ?_)
            refine Fx.look rfl rfl (op_load_Id' (f := m.f) (c := m.c) hjbl j0 j1 rfl) (by simp only [List.set_cons_zero, List.set_cons_succ]; rfl) ?_
            refine Fx.call1 (v := .int .i64 z) (args := #[.pointer (some ⟨r, 0, none⟩), .agg #[.int .i64 m.f, .int .u32 m.c]]) rfl rfl (fun _ => by first | (go_simp; done) | (go_simp; rfl)) (fun w' hC => (at_ref (HI6.out.v.ext hC) (by omega) m.f m.c).mono (fun e w'' hh => by rw [Hz.out] at hh; exact hh)) (by simp only [List.set_cons_zero, List.set_cons_succ]; rfl) ?_
            first
              | refine Fx.skip rfl rfl (by simp only [List.set_cons_zero, List.set_cons_succ]; rfl) ?_
              | (with_reducible refine Fx.lab0 ?_
                 first
                   | refine Fx.moveT rfl rfl rfl (by simp only [List.set_cons_zero, List.set_cons_succ]; rfl) ?_
                   | refine Fx.assignT rfl rfl rfl (by simp only [List.set_cons_zero, List.set_cons_succ]; rfl) ?_
                   | refine Fx.pure_ rfl rfl (fun _ => by go_simp; first | done | rfl) (by simp only [List.set_cons_zero, List.set_cons_succ]; rfl) ?_)
              | (with_reducible refine Fx.lab1 ?_
                 refine Fx.look rfl rfl (fun w' hC => by obtain ⟨hc, hf, hl⟩ := Ext.cells hC; go_simp; rfl) (by simp only [List.set_cons_zero, List.set_cons_succ]; rfl) ?_)
            refine Fx.done (fun w7 hC => ?_)
            have HI7 := Lib.hid (HI6.out.ext hC)
            have hDt' : ∀ j, decide (j ∈ D' ++ [keyM m]) = isB (done1 τ m) j := fun j => by
              rw [Hb1.out j, ← hDt.out j]
              by_cases h1 : j = keyM m <;> by_cases h2 : j ∈ D' <;> simp [h1, h2]
            have HDt' := Lib.hid hDt'
            clear hC j0 j1 j2 hjbl hDt'
            by_cases hz0 : 0 ≤ z
            · have hzl : z.toNat < PP.length := by
                have := Hz.out
                unfold atI at this
                split at this
                · omega
                · omega
              obtain ⟨n, hn⟩ : ∃ n : Nat, z = n := ⟨z.toNat, by omega⟩
              subst hn
              have hn1 : n < PP.length := by omega
              have hdec : decide ((0 : Int) ≤ (n : Int)) = true := by simp
              have hP' : pend (done1 τ m) = PP.take n ++ PP.drop (n + 1) := by rw [Hp1.out rfl]; unfold cutA; rw [if_pos hz0, Int.toNat_natCast]
              have HP' := Lib.hid hP'
              obtain ⟨pA, pcap, hpv, hpc, -⟩ := HI7.out.v.p.val
              subst hpv
              obtain ⟨x0, x1, lb⟩ := HI7.out.v.cells
              have hS1 := HI7.out.v.ps.take n (by omega)
              have hS2 := HI7.out.v.ps.drop (n + 1) (by omega)
              have HS1 := Lib.hid hS1
              have HS2 := Lib.hid hS2
              have hnc : n ≤ pcap := by omega
              have hwn : IntKind.i64.wrap ((n : Int) + 1) = (n : Int) + 1 := IntWalk.i64_in _ ⟨by omega, by omega⟩
              clear hP' hS1 hS2 hzl
              go_upto_region 18 with fail
              refine wp_region_line [(0,0),(1,0),(2,0),(3,0),(4,1),(5,0),(6,0),(7,3),(8,0)] (by kernel_rfl) (by kernel_rfl) (Ext w7) (fun _ _ h k => h.trans k) (Ext.refl _) ?_
              iterate 6
                first
                  | refine Fx.skip rfl rfl (by simp only [List.set_cons_zero, List.set_cons_succ]; rfl) ?_
                  | (with_reducible refine Fx.lab0 ?_
                     first
                       | refine Fx.moveT rfl rfl rfl (by simp only [List.set_cons_zero, List.set_cons_succ]; rfl) ?_
                       | refine Fx.assignT rfl rfl rfl (by simp only [List.set_cons_zero, List.set_cons_succ]; rfl) ?_
                       | refine Fx.pure_ rfl rfl (fun _ => by go_simp; first | done | rfl) (by simp only [List.set_cons_zero, List.set_cons_succ]; rfl) ?_)
                  | (with_reducible refine Fx.lab1 ?_
                     refine Fx.look rfl rfl (fun w' hC => by obtain ⟨hc, hf, hl⟩ := Ext.cells hC; go_simp; rfl) (by simp only [List.set_cons_zero, List.set_cons_succ]; rfl) ?_)
              refine Fx.pure_ rfl rfl (fun w => op_takeS pA PP.length pcap n n rfl rfl rfl hnc w) (by simp only [List.set_cons_zero, List.set_cons_succ]; rfl) ?_
              refine Fx.eff (fun v' w' => OwnMs w' v' ([] ++ PP.take n) ∧ Mods (fun c => Value.ownBlock (.slice none 0 0) = some c) w7 w' ∧ (∀ c, v'.ownBlock = some c → Value.ownBlock (.slice none 0 0) = some c ∨ w7.heap.size ≤ c)) (fun v _ _ h k => ⟨h.1.ext k, h.2.1.then_ k, h.2.2⟩) rfl rfl
                (fun w' hC => stepAt_append hC Own.nil (HS1.out.ext hC) (by simp; omega) rfl rfl) (fun v2 => ?_)
              simp only [List.set_cons_zero, List.set_cons_succ]
              first
                | refine Fx.skip rfl rfl (by simp only [List.set_cons_zero, List.set_cons_succ]; rfl) ?_
                | (with_reducible refine Fx.lab0 ?_
                   first
                     | refine Fx.moveT rfl rfl rfl (by simp only [List.set_cons_zero, List.set_cons_succ]; rfl) ?_
                     | refine Fx.assignT rfl rfl rfl (by simp only [List.set_cons_zero, List.set_cons_succ]; rfl) ?_
                     | refine Fx.pure_ rfl rfl (fun _ => by go_simp; first | done | rfl) (by simp only [List.set_cons_zero, List.set_cons_succ]; rfl) ?_)
                | (with_reducible refine Fx.lab1 ?_
                   refine Fx.look rfl rfl (fun w' hC => by obtain ⟨hc, hf, hl⟩ := Ext.cells hC; go_simp; rfl) (by simp only [List.set_cons_zero, List.set_cons_succ]; rfl) ?_)
              refine Fx.done (fun w8 hC => ?_)
              obtain ⟨hA1, hA2, hA3⟩ := hC
              have hE8 : Ext w7 w8 := hA2.ext_of (fun x hx h => by simp [Value.ownBlock] at h)
              have HA1 := Lib.hid hA1
              have HA3 : Hid (∀ c, v2.ownBlock = some c → w7.heap.size ≤ c) := Lib.hid (fun c hc => (hA3 c hc).elim (fun h => by simp [Value.ownBlock] at h) id)
              have HE8 := Lib.hid hE8
              have HI8 := Lib.hid (HI7.out.ext hE8)
              have HS28 := Lib.hid (HS2.out.ext hE8)
              clear x0 x1 lb hA1 hA2 hA3 hE8
              obtain ⟨x0, x1, lb⟩ := HI8.out.v.cells
              have f0 := HI8.out.v.o.free 0
              have hr7 : r < w7.heap.size := HI7.out.v.cells.2.2
              go_upto_region 19 with fail
              refine wp_region_line [(0,0),(1,0),(2,0),(3,0),(4,0),(5,1),(6,0),(7,0),(8,0),(9,3),(10,0),(11,0),(12,3)] (by kernel_rfl) (by kernel_rfl) (Ext w8) (fun _ _ h k => h.trans k) (Ext.refl _) ?_
              iterate 8
                first
                  | refine Fx.skip rfl rfl (by simp only [List.set_cons_zero, List.set_cons_succ]; rfl) ?_
                  | (with_reducible refine Fx.lab0 ?_
                     first
                       | refine Fx.moveT rfl rfl rfl (by simp only [List.set_cons_zero, List.set_cons_succ]; rfl) ?_
                       | refine Fx.assignT rfl rfl rfl (by simp only [List.set_cons_zero, List.set_cons_succ]; rfl) ?_
                       | refine Fx.pure_ rfl rfl (fun _ => by go_simp; first | done | rfl) (by simp only [List.set_cons_zero, List.set_cons_succ]; rfl) ?_)
                  | (with_reducible refine Fx.lab1 ?_
                     refine Fx.look rfl rfl (fun w' hC => by obtain ⟨hc, hf, hl⟩ := Ext.cells hC; go_simp; rfl) (by simp only [List.set_cons_zero, List.set_cons_succ]; rfl) ?_)
              refine Fx.pure_ rfl rfl (fun w => op_drop pA PP.length pcap (n + 1) ((n : Int) + 1) rfl rfl (by omega) (by omega) w) (by simp only [List.set_cons_zero, List.set_cons_succ]; rfl) ?_
              refine Fx.eff (fun v' w' => OwnMs w' v' (([] ++ PP.take n) ++ PP.drop (n + 1)) ∧ Mods (fun c => v2.ownBlock = some c) w8 w' ∧ (∀ c, v'.ownBlock = some c → v2.ownBlock = some c ∨ w8.heap.size ≤ c)) (fun v _ _ h k => ⟨h.1.ext k, h.2.1.then_ k, h.2.2⟩) rfl rfl
                (fun w' hC => stepAt_append hC (HA1.out.ext hC) (HS28.out.ext hC) (by simp; omega) rfl rfl) (fun v3 => ?_)
              simp only [List.set_cons_zero, List.set_cons_succ]
              iterate 2
                first
                  | refine Fx.skip rfl rfl (by simp only [List.set_cons_zero, List.set_cons_succ]; rfl) ?_
                  | (with_reducible refine Fx.lab0 ?_
                     first
                       | refine Fx.moveT rfl rfl rfl (by simp only [List.set_cons_zero, List.set_cons_succ]; rfl) ?_
                       | refine Fx.assignT rfl rfl rfl (by simp only [List.set_cons_zero, List.set_cons_succ]; rfl) ?_
                       | refine Fx.pure_ rfl rfl (fun _ => by go_simp; first | done | rfl) (by simp only [List.set_cons_zero, List.set_cons_succ]; rfl) ?_)
                  | (with_reducible refine Fx.lab1 ?_
                     refine Fx.look rfl rfl (fun w' hC => by obtain ⟨hc, hf, hl⟩ := Ext.cells hC; go_simp; rfl) (by simp only [List.set_cons_zero, List.set_cons_succ]; rfl) ?_)
              refine Fx.store ⟨r, 0, none⟩ v3 rfl rfl (fun w' hC => by
                obtain ⟨hc, hf, hl⟩ := hC.2.1.cells
                have hne : ¬ v2.ownBlock = some r := fun h => by have := HA3.out r h; omega
                have e1 := (hc r 0 lb hne).trans x0
                have e2 := (hf r 0 lb hne).trans f0
                obtain ⟨A3, n3, c3, rfl⟩ : ∃ A n cap, v3 = .slice A n cap := by obtain ⟨A, cap, e, _⟩ := hC.1.val; exact ⟨_, _, _, e⟩
                clear hc hf hl hC
                go_simp) ?_
              refine Fx.done (fun wz hC => ?_)
              obtain ⟨wy, ⟨g1, g2, g3⟩, g4⟩ := hC
              have hE9 : Ext w7 wy := ((HE8.out.mods _).trans g2 (fun _ _ h => h)).ext_of (fun x hx h => by have := HA3.out x h; omega)
              have s8 := HE8.out.size
              have HI9 := Lib.hid (HI7.out.putP g1 hE9 (fun c hc => (g3 c hc).elim (HA3.out c) (fun h => by omega)) g4)
              clear g1 g2 g3 g4 x0 x1 lb f0 hE9
              go_wp2
              go_roundw
              case rel =>
                refine ⟨k + 1, lv', v3, v1, D' ++ [keyM m], rfl, by go_num, by omega, by simp; omega, Lib.hid ?_, Lib.hid ?_⟩
                · rw [Hn.out]; exact HDt'.out
                · rw [Hn.out, Hd.out, HP'.out]; simpa using HI9.out
              case measure => simp [intOf]; omega
            · have hdec : decide ((0 : Int) ≤ z) = false := by simp; omega
              have hP' : pend (done1 τ m) = PP := by rw [Hp1.out rfl]; unfold cutA; rw [if_neg hz0]
              have HP' := Lib.hid hP'
              clear hP'
              go_wp2
              go_roundw
              case rel =>
                refine ⟨k + 1, lv', pv', v1, D' ++ [keyM m], rfl, by go_num, by omega, by simp; omega, Lib.hid ?_, Lib.hid ?_⟩
                · rw [Hn.out]; exact HDt'.out
                · rw [Hn.out, Hd.out, HP'.out]; exact HI7.out
              case measure => simp [intOf]; omega
        · have hkl : k = l.length := by omega
          subst hkl
          have hds : doneS σ l = doneN σ (l.take l.length) := by unfold doneS; rw [HRi.out, List.take_length]; rfl
          have hda : doneA σ l = doneL σ (l.take l.length) := by unfold doneA; rw [HRi.out, List.take_length]; rfl
          have Hds := Lib.hid hds
          have Hda := Lib.hid hda
          clear hds hda
          go_wp2
          go_ret2
          exact ⟨nv, pv', dv', D', by unfold doneE; rw [HRi.out]; rfl, by rw [Hds.out]; exact ⟨rfl, hDt.out⟩, hDk, by rw [Hds.out, Hda.out]; exact hI.out⟩
end Go.Proofs.Ytkkcdoajdhbofaa
