/-
  rostrumref16.Model.Happen.
-/
import Derived.Test.YtfnchpjiebojiaaRef
namespace Go.Proofs.Ytfnchpjiebojiaa
open Go.RowKit
attribute [local go_sem] Oper.semAt_some

def RHapR (rb db : Nat) (av lv : Value) (ρ : RSt) (h : Hp) (w : World) (e : Ending) (w' : World) : Prop :=
  e = .returned (.int .i64 (if refB ρ h = true then 0 else 160)) ∧ ∃ av' lv', RefAt w' rb db av' lv' (refT ρ h) ∧ Mods (FR rb db av lv) w w' ∧
    (∀ y, av'.ownBlock = some y → av.ownBlock = some y ∨ w.heap.size ≤ y) ∧ (∀ y, lv'.ownBlock = some y → lv.ownBlock = some y ∨ w.heap.size ≤ y)
theorem rhap_no {rb db : Nat} {av lv : Value} {ρ : RSt} {h : Hp} {w w' : World} (hR : RefAt w' rb db av lv ρ) (hE : Ext w w') (hB : refB ρ h = false) : RHapR rb db av lv ρ h w (.returned (.int .i64 160)) w' :=
  ⟨by rw [hB]; rfl, av, lv, by unfold refT; rw [hB]; exact hR, hE.mods _, fun y hy => .inl hy, fun y hy => .inl hy⟩
theorem rhap_same {rb db : Nat} {av lv : Value} {ρ : RSt} {h : Hp} {w w' : World} (hR : RefAt w' rb db av lv ρ) (hE : Ext w w') (hB : refB ρ h = true) (hS : refS ρ h = ρ) : RHapR rb db av lv ρ h w (.returned (.int .i64 0)) w' :=
  ⟨by rw [hB]; rfl, av, lv, by unfold refT; rw [if_pos hB, hS]; exact hR, hE.mods _, fun y hy => .inl hy, fun y hy => .inl hy⟩
/-- A was appended to. -/
theorem RefAt.addA {w w5 w6 : World} {rb db : Nat} {av av' lv : Value} {ρ : RSt} {A' : List Ms} (h : RefAt w rb db av lv ρ) (ho : OwnMs w5 av' A') (hm : Mods (fun c => av.ownBlock = some c) w w5) (hf : ∀ c, av'.ownBlock = some c → av.ownBlock = some c ∨ w.heap.size ≤ c) (h6 : Ext (w5.setCell ⟨rb, 0, none⟩ av') w6) :
    RefAt w6 rb db av' lv { ρ with A := A' } ∧ Mods (FR rb db av lv) w w6 := by
  have m6 : Mods (· = rb) w5 w6 := (Mods.setCell w5 rb 0 av').then_ h6
  have hrl := h.obj.lt
  have hdl := h.ds.lt
  have nv : ∀ y, av'.ownBlock = some y → y ≠ rb ∧ y ≠ db := fun y hy => by
    rcases hf y hy with h' | h'
    · exact h.da y h'
    · exact ⟨by omega, by omega⟩
  refine ⟨⟨?_, ?_, ho.mods m6 (fun y hy => (nv y hy).1), ?_, h.d1, nv, fun y hy => ⟨(h.dl y hy).1, (h.dl y hy).2.1, fun e => ?_⟩⟩, ?_⟩
  · exact (((h.obj.mods hm (fun e => (h.da rb e).1 rfl)).set (i := 0) (by decide) av').ext h6).congr (fun i hi => by
      match i, hi with
      | 0, _ => rfl
      | 1, _ => rfl
      | 2, _ => rfl)
  · exact (h.ds.mods hm (fun e => (h.da db e).2 rfl)).mods m6 (fun e => h.d1 e.symm)
  · exact (h.l.mods hm (fun y hy e => (h.dl y hy).2.2 e)).mods m6 (fun y hy => (h.dl y hy).1)
  · rcases hf y e with h' | h'
    · exact (h.dl y hy).2.2 h'
    · have := h.l.lt hy; omega
  · exact (hm.mono (T := FR rb db av lv) (fun _ _ h => .inr (.inr (.inl h)))).trans m6 (fun _ _ h => .inl h)
/-- L was appended to. -/
theorem RefAt.addL {w w5 w6 : World} {rb db : Nat} {av lv lv' : Value} {ρ : RSt} {L' : List Ms} (h : RefAt w rb db av lv ρ) (ho : OwnMs w5 lv' L') (hm : Mods (fun c => lv.ownBlock = some c) w w5) (hf : ∀ c, lv'.ownBlock = some c → lv.ownBlock = some c ∨ w.heap.size ≤ c) (h6 : Ext (w5.setCell ⟨rb, 1, none⟩ lv') w6) :
    RefAt w6 rb db av lv' { ρ with L := L' } ∧ Mods (FR rb db av lv) w w6 := by
  have m6 : Mods (· = rb) w5 w6 := (Mods.setCell w5 rb 1 lv').then_ h6
  have hrl := h.obj.lt
  have hdl := h.ds.lt
  refine ⟨⟨?_, ?_, ?_, ?_, h.d1, h.da, fun y hy => ?_⟩, ?_⟩
  · exact (((h.obj.mods hm (fun e => (h.dl rb e).1 rfl)).set (i := 1) (by decide) lv').ext h6).congr (fun i hi => by
      match i, hi with
      | 0, _ => rfl
      | 1, _ => rfl
      | 2, _ => rfl)
  · exact (h.ds.mods hm (fun e => (h.dl db e).2.1 rfl)).mods m6 (fun e => h.d1 e.symm)
  · exact (h.a.mods hm (fun y hy e => (h.dl y e).2.2 hy)).mods m6 (fun y hy => (h.da y hy).1)
  · refine ho.mods m6 (fun y hy e => ?_)
    rcases hf y hy with h' | h'
    · exact (h.dl y h').1 e
    · omega
  · rcases hf y hy with h' | h'
    · exact h.dl y h'
    · exact ⟨by omega, by omega, fun e => by have := h.a.lt e; omega⟩
  · exact (hm.mono (T := FR rb db av lv) (fun _ _ h => .inr (.inr (.inr h)))).trans m6 (fun _ _ h => .inl h)
/-- A node's count was set. -/
theorem RefAt.setD {w w6 : World} {rb db : Nat} {av lv : Value} {ρ : RSt} {nd v : Nat} (h : RefAt w rb db av lv ρ) (hnd : nd < ρ.n) (h6 : Ext (w.setCell ⟨db, nd, none⟩ (.int .i64 (v : Int))) w6) :
    RefAt w6 rb db av lv { ρ with D := updI ρ.D nd v } ∧ Mods (· = db) w w6 := by
  have m6 : Mods (· = db) w w6 := (Mods.setCell w db nd _).then_ h6
  refine ⟨⟨h.obj.mods m6 (fun e => h.d1 e), ?_, h.a.mods m6 (fun y hy => (h.da y hy).2), h.l.mods m6 (fun y hy => (h.dl y hy).2.1), h.d1, h.da, h.dl⟩, m6⟩
  exact ((h.ds.set hnd _).ext h6).congr (fun i hi => by
    by_cases e : i = nd
    · subst e; simp [upd, updI]
    · simp [upd, updI, e])
theorem OwnMs.cellAt {w : World} {v : Value} {l : List Ms} (h : OwnMs w v l) {j : Nat} (hj : j < l.length) :
    ∃ g cap, v = .slice (some ⟨g, 0, none⟩) l.length cap ∧ g < w.heap.size ∧ w.cell? ⟨g, j * 3, none⟩ = some (.int .i64 l[j].f) ∧ w.cell? ⟨g, j * 3 + 1, none⟩ = some (.int .u32 l[j].c) ∧ w.cell? ⟨g, j * 3 + 2, none⟩ = some (.string l[j].d) := by
  rcases h.2 with ⟨_, hl⟩ | ⟨g, cap, cur, rfl, _⟩
  · omega
  · obtain ⟨g', off, e, hlt, h0, h1, h2⟩ := Sl.at3 (h.sl Ms.len) hj
    injection e with e
    injection e with e1 e2
    subst e1; subst e2
    exact ⟨g, cap, rfl, hlt, by simpa using h0, by simpa using h1, by simpa using h2⟩

set_option maxRecDepth 100000 in
set_option maxHeartbeats 6400000 in
theorem rhap_at {w : World} {rb db : Nat} {av lv : Value} {ρ : RSt} (hR : RefAt w rb db av lv ρ) (hD : ∀ i, ρ.D i ≤ ρ.L.length) (hlA : ρ.A.length ≤ 1000000) (hlL : ρ.L.length ≤ 1000000) (hn16 : ρ.n ≤ 16) (h : Hp) :
    Calls Try.prog 16 #[.pointer (some ⟨rb, 0, none⟩), h.val] w (RHapR rb db av lv ρ h w) := by
  have hE0 := Ext.alloc w (.cells #[.int .i64 h.k, .int .i64 h.n, .int .i64 h.m.f, .int .u32 h.m.c, .string h.m.d] 36)
  have bx := box_Hp w h
  have b0 := bx.cell 0 (by decide)
  have b1 := bx.cell 1 (by decide)
  have b2 := bx.cell 2 (by decide)
  have b3 := bx.cell 3 (by decide)
  have b4 := bx.cell 4 (by decide)
  have bl := bx.lt
  simp only [Hp.enc, List.getD_cons_zero, List.getD_cons_succ] at b0 b1 b2 b3 b4
  have HR := Lib.hid (hR.ext hE0)
  have HE := Lib.hid hE0
  obtain ⟨lA, lcap, rfl, -⟩ := hR.l.val
  obtain ⟨aA, acap, rfl, -⟩ := hR.a.val
  have c0 := HR.out.obj.cell 0 (by decide)
  have c1 := HR.out.obj.cell 1 (by decide)
  have c2 := HR.out.obj.cell 2 (by decide)
  have lb := HR.out.obj.lt
  have hbB : rb ≠ w.heap.size := by have := hR.obj.lt; omega
  simp only [rF, List.getD_cons_zero, List.getD_cons_succ] at c0 c1 c2
  have hval : h.val = .agg #[.int .i64 h.k, .int .i64 h.n, .int .i64 h.m.f, .int .u32 h.m.c, .string h.m.d] := rfl
  rw [hval]
  have HD := Lib.hid hD
  have hlt0 : ∀ x : Nat, FR rb db (.slice aA ρ.A.length acap) (.slice lA ρ.L.length lcap) x → x < w.heap.size := fun x hx => hR.lt hx
  have Hlt0 := Lib.hid hlt0
  clear hlt0
  obtain ⟨N, hN⟩ : ∃ N, ρ.n = N := ⟨_, rfl⟩
  have HN := Lib.hid hN
  rw [hN] at c2 hn16
  clear bx hE0 hval hR hD hN
  go_enter Try.func16, Try.ntmps16
  go_upto_region 1 with fail
  generalize hW : w.alloc (.cells #[.int .i64 h.k, .int .i64 h.n, .int .i64 h.m.f, .int .u32 h.m.c, .string h.m.d] 36) = W at *
  obtain ⟨r1, hr1⟩ : ∃ r1, decide (h.n < 0) = r1 := ⟨_, rfl⟩
  obtain ⟨r2, hr2⟩ : ∃ r2, decide ((N : Int) ≤ h.n) = r2 := ⟨_, rfl⟩
  have R1 := Lib.hid hr1
  have R2 := Lib.hid hr2
  have hrng : refB ρ h = ((!r1 && !r2) && refR ρ h) := by
    unfold refB
    rw [← hr1, ← hr2, HN.out]
    congr 1
    by_cases q1 : h.n < 0
    · simp [q1]; try omega
    · by_cases q2 : (N : Int) ≤ h.n
      · simp [q1, q2]; try omega
      · simp [q1, q2]; try omega
  have Hrng := Lib.hid hrng
  clear hrng
  refine wp_region_plan [(0,0),(1,1),(2,0),(3,0),(4,0),(5,1),(6,0),(7,0),(8,0),(9,1),(10,0),(11,0),(12,0)] (by kernel_rfl) (by kernel_rfl) (by kernel_rfl) (Ext W) (fun _ _ h k => h.trans k) (Ext.drawn _ _) ?_
  iterate 4
    first
      | refine Fx.skip rfl rfl (by simp only [List.set_cons_zero, List.set_cons_succ]; rfl) ?_
      | (with_reducible refine Fx.lab0 ?_
         first
           | refine Fx.moveT rfl rfl rfl (by simp only [List.set_cons_zero, List.set_cons_succ]; rfl) ?_
           | refine Fx.assignT rfl rfl rfl (by simp only [List.set_cons_zero, List.set_cons_succ]; rfl) ?_
           | refine Fx.pure_ rfl rfl (fun _ => by go_simp; first | done | rfl) (by simp only [List.set_cons_zero, List.set_cons_succ]; rfl) ?_)
      | (with_reducible refine Fx.lab1 ?_
         refine Fx.look rfl rfl (fun w' hC => by obtain ⟨hc, hf, hl⟩ := Ext.cells hC; go_simp; rfl) (by simp only [List.set_cons_zero, List.set_cons_succ]; rfl) ?_)
  cases r1 with
  | true =>
    iterate 9
      first
        | refine Fx.skip rfl rfl (by simp only [List.set_cons_zero, List.set_cons_succ]; rfl) ?_
        | (with_reducible refine Fx.lab0 ?_
           first
             | refine Fx.moveT rfl rfl rfl (by simp only [List.set_cons_zero, List.set_cons_succ]; rfl) ?_
             | refine Fx.assignT rfl rfl rfl (by simp only [List.set_cons_zero, List.set_cons_succ]; rfl) ?_
             | refine Fx.pure_ rfl rfl (fun _ => by go_simp; first | done | rfl) (by simp only [List.set_cons_zero, List.set_cons_succ]; rfl) ?_)
        | (with_reducible refine Fx.lab1 ?_
           refine Fx.look rfl rfl (fun w' hC => by obtain ⟨hc, hf, hl⟩ := Ext.cells hC; go_simp; rfl) (by simp only [List.set_cons_zero, List.set_cons_succ]; rfl) ?_)
    refine Fx.done (fun w1 hC => ?_)
    have HC := Lib.hid hC
    clear hC hr1 hr2 b0 b1 b2 b3 b4 c0 c1 c2
    go_wp2
    go_ret
    exact rhap_no (HR.out.ext HC.out) (HE.out.trans HC.out) (by rw [Hrng.out]; rfl)
  | false =>
    iterate 9
      first
        | refine Fx.skip rfl rfl (by simp only [List.set_cons_zero, List.set_cons_succ]; rfl) ?_
        | (with_reducible refine Fx.lab0 ?_
           first
             | refine Fx.moveT rfl rfl rfl (by simp only [List.set_cons_zero, List.set_cons_succ]; rfl) ?_
             | refine Fx.assignT rfl rfl rfl (by simp only [List.set_cons_zero, List.set_cons_succ]; rfl) ?_
             | refine Fx.pure_ rfl rfl (fun _ => by go_simp; first | done | rfl) (by simp only [List.set_cons_zero, List.set_cons_succ]; rfl) ?_)
        | (with_reducible refine Fx.lab1 ?_
           refine Fx.look rfl rfl (fun w' hC => by obtain ⟨hc, hf, hl⟩ := Ext.cells hC; go_simp; rfl) (by simp only [List.set_cons_zero, List.set_cons_succ]; rfl) ?_)
    refine Fx.done (fun w1 hC => ?_)
    have HR1 := Lib.hid (HR.out.ext hC)
    have HE1 := Lib.hid (HE.out.trans hC)
    obtain ⟨xc, xf, xl⟩ := hC.cells
    replace b0 := (xc _ _ bl).trans b0
    replace b1 := (xc _ _ bl).trans b1
    replace b2 := (xc _ _ bl).trans b2
    replace b3 := (xc _ _ bl).trans b3
    replace b4 := (xc _ _ bl).trans b4
    replace bl := xl _ bl
    replace c0 := (xc _ _ lb).trans c0
    replace c1 := (xc _ _ lb).trans c1
    replace c2 := (xc _ _ lb).trans c2
    replace lb := xl _ lb
    clear xc xf xl hC hr1 hr2
    cases r2 with
    | true =>
      clear b0 b1 b2 b3 b4 c0 c1 c2
      go_wp2
      go_ret
      exact rhap_no HR1.out HE1.out (by rw [Hrng.out]; rfl)
    | false =>
      have hnn : 0 ≤ h.n ∧ h.n < N := by have q1 := R1.out; have q2 := R2.out; simp at q1 q2; omega
      obtain ⟨nd, hnd⟩ : ∃ nd : Nat, h.n = nd := ⟨h.n.toNat, by omega⟩
      have Hnd := Lib.hid hnd
      rw [hnd] at b1
      by_cases hk2 : h.k = 2
      · have q1 : (h.k == 2) = true := by simp [hk2]
        have Hk := Lib.hid hk2
        clear hk2 hnn hnd
        go_wp2
        go_ret
        exact rhap_same HR1.out HE1.out (by rw [Hrng.out]; unfold refR; rw [if_pos Hk.out]; rfl) (by unfold refS; rw [if_neg (by have := Hk.out; omega), if_neg (by have := Hk.out; omega)])
      · by_cases hk1 : h.k = 1
        · have q1 : (h.k == 2) = false := by simp [hk1]
          have q2 : (h.k == 1) = true := by simp [hk1]
          have Hk := Lib.hid hk1
          obtain ⟨rr, hrr⟩ : ∃ rr, rightB h.m = rr := ⟨_, rfl⟩
          obtain ⟨cn, hcn⟩ : ∃ cn, countF ρ.A nd = cn := ⟨_, rfl⟩
          have hcn1 : cn ≤ 1000000 := by rw [← hcn]; exact Nat.le_trans (countF_le _ _) hlA
          have hright := fun w' => right_ref h.m w'
          rw [hrr] at hright
          have Hr := Lib.hid hright
          have hcnt : ∀ w', Ext w1 w' → Calls Try.prog 28 #[.slice aA ρ.A.length acap, .int .i64 nd] w' (fun e w'' => e = .returned (.int .u32 (cn : Int)) ∧ Ext w' w'') := fun w' hx => by
            refine (count_ref _ ρ.A nd w' ((HR1.out.ext hx).a.sl Ms.len) (by omega)).mono ?_
            rintro e w'' ⟨h1, h2⟩
            subst h2
            exact ⟨by rw [h1, hcn], Ext.refl _⟩
          have Hcnt := Lib.hid hcnt
          have hres : refR ρ h = (rr && (decide (h.m.f = nd) && decide (h.m.c = (cn : Int) + 1))) := by
            unfold refR
            rw [if_neg hk2, if_pos hk1, hrr, Hnd.out, hcn]
          have Hres := Lib.hid hres
          have hw : IntKind.u32.wrap ((cn : Int) + 1) = (cn : Int) + 1 := IntWalk.u32_in _ ⟨by omega, by omega⟩
          clear hk1 hk2 hnn hnd hright hcnt hres hrr hcn
          go_upto_region 6 with fail
          refine wp_region_line [(0,0),(1,1),(2,1),(3,0)] (by kernel_rfl) (by kernel_rfl) (Ext w1) (fun _ _ h k => h.trans k) (Ext.refl _) ?_
          first
            | refine Fx.skip rfl rfl (by simp only [List.set_cons_zero, List.set_cons_succ]; rfl) ?_
            | (with_reducible refine Fx.lab0 ?_
               first
                 | refine Fx.moveT rfl rfl rfl (by simp only [List.set_cons_zero, List.set_cons_succ]; rfl) ?_
                 | refine Fx.assignT rfl rfl rfl (by simp only [List.set_cons_zero, List.set_cons_succ]; rfl) ?_
                 | refine Fx.pure_ rfl rfl (fun _ => by go_simp; first | done | rfl) (by simp only [List.set_cons_zero, List.set_cons_succ]; rfl) ?_)
            | (with_reducible refine Fx.lab1 ?_
               refine Fx.look rfl rfl (fun w' hC => by obtain ⟨hc, hf, hl⟩ := Ext.cells hC; go_simp; rfl) (by simp only [List.set_cons_zero, List.set_cons_succ]; rfl) ?_)
          refine Fx.look rfl rfl (op_load_Ms' (m := h.m) bl b2 b3 b4 rfl) (by simp only [List.set_cons_zero, List.set_cons_succ]; rfl) ?_
          refine Fx.call1 (args := #[h.m.val]) rfl rfl (fun _ => by first | (go_simp; done) | (go_simp; rfl)) (fun w' hC' => Hr.out w') (by simp only [List.set_cons_zero, List.set_cons_succ]; rfl) ?_
          first
            | refine Fx.skip rfl rfl (by simp only [List.set_cons_zero, List.set_cons_succ]; rfl) ?_
            | (with_reducible refine Fx.lab0 ?_
               first
                 | refine Fx.moveT rfl rfl rfl (by simp only [List.set_cons_zero, List.set_cons_succ]; rfl) ?_
                 | refine Fx.assignT rfl rfl rfl (by simp only [List.set_cons_zero, List.set_cons_succ]; rfl) ?_
                 | refine Fx.pure_ rfl rfl (fun _ => by go_simp; first | done | rfl) (by simp only [List.set_cons_zero, List.set_cons_succ]; rfl) ?_)
            | (with_reducible refine Fx.lab1 ?_
               refine Fx.look rfl rfl (fun w' hC => by obtain ⟨hc, hf, hl⟩ := Ext.cells hC; go_simp; rfl) (by simp only [List.set_cons_zero, List.set_cons_succ]; rfl) ?_)
          refine Fx.done (fun w2 hC => ?_)
          go_wp2
          refine wp_region_plan [(0,0),(1,0),(2,0),(3,0),(4,0),(5,0),(6,1),(7,0),(8,1),(9,0),(10,0),(11,0),(12,0),(13,0),(14,0),(15,1),(16,0),(17,0),(18,0),(19,1),(20,0),(21,1),(22,1),(23,0),(24,0),(25,0)] (by kernel_rfl) (by kernel_rfl) (by kernel_rfl) (Ext w1) (fun _ _ h k => h.trans k) (hC.trans (Ext.drawn _ _)) ?_
          clear hC
          cases rr with
          | false =>
            iterate 26
              first
                | refine Fx.skip rfl rfl (by simp only [List.set_cons_zero, List.set_cons_succ]; rfl) ?_
                | (with_reducible refine Fx.lab0 ?_
                   first
                     | refine Fx.moveT rfl rfl rfl (by simp only [List.set_cons_zero, List.set_cons_succ]; rfl) ?_
                     | refine Fx.assignT rfl rfl rfl (by simp only [List.set_cons_zero, List.set_cons_succ]; rfl) ?_
                     | refine Fx.pure_ rfl rfl (fun _ => by go_simp; first | done | rfl) (by simp only [List.set_cons_zero, List.set_cons_succ]; rfl) ?_)
                | (with_reducible refine Fx.lab1 ?_
                   refine Fx.look rfl rfl (fun w' hC => by obtain ⟨hc, hf, hl⟩ := Ext.cells hC; go_simp; rfl) (by simp only [List.set_cons_zero, List.set_cons_succ]; rfl) ?_)
            refine Fx.done (fun w3 hC => ?_)
            have HC := Lib.hid hC
            clear hC b0 b1 b2 b3 b4 c0 c1 c2
            go_wp2
            go_ret
            exact rhap_no (HR1.out.ext HC.out) (HE1.out.trans HC.out) (by rw [Hrng.out, Hres.out]; rfl)
          | true =>
            by_cases hf : h.m.f = nd
            · have hfb : (h.m.f != (nd : Int)) = false := by simpa using hf
              have Hf := Lib.hid hf
              obtain ⟨rc, hrc⟩ : ∃ rc, (h.m.c != (cn : Int) + 1) = rc := ⟨_, rfl⟩
              have Hrc := Lib.hid hrc
              clear hf
              iterate 22
                first
                  | refine Fx.skip rfl rfl (by simp only [List.set_cons_zero, List.set_cons_succ]; rfl) ?_
                  | (with_reducible refine Fx.lab0 ?_
                     first
                       | refine Fx.moveT rfl rfl rfl (by simp only [List.set_cons_zero, List.set_cons_succ]; rfl) ?_
                       | refine Fx.assignT rfl rfl rfl (by simp only [List.set_cons_zero, List.set_cons_succ]; rfl) ?_
                       | refine Fx.pure_ rfl rfl (fun _ => by go_simp; first | done | rfl) (by simp only [List.set_cons_zero, List.set_cons_succ]; rfl) ?_)
                  | (with_reducible refine Fx.lab1 ?_
                     refine Fx.look rfl rfl (fun w' hC => by obtain ⟨hc, hf, hl⟩ := Ext.cells hC; go_simp; rfl) (by simp only [List.set_cons_zero, List.set_cons_succ]; rfl) ?_)
              refine Fx.call1 (args := #[.slice aA ρ.A.length acap, .int .i64 nd]) rfl rfl (fun _ => by first | (go_simp; done) | (go_simp; rfl)) (fun w' hC' => Hcnt.out w' hC') (by simp only [List.set_cons_zero, List.set_cons_succ]; rfl) ?_
              cases rc with
              | true =>
                iterate 3
                  first
                    | refine Fx.skip rfl rfl (by simp only [List.set_cons_zero, List.set_cons_succ]; rfl) ?_
                    | (with_reducible refine Fx.lab0 ?_
                       first
                         | refine Fx.moveT rfl rfl rfl (by simp only [List.set_cons_zero, List.set_cons_succ]; rfl) ?_
                         | refine Fx.assignT rfl rfl rfl (by simp only [List.set_cons_zero, List.set_cons_succ]; rfl) ?_
                         | refine Fx.pure_ rfl rfl (fun _ => by go_simp; first | done | rfl) (by simp only [List.set_cons_zero, List.set_cons_succ]; rfl) ?_)
                    | (with_reducible refine Fx.lab1 ?_
                       refine Fx.look rfl rfl (fun w' hC => by obtain ⟨hc, hf, hl⟩ := Ext.cells hC; go_simp; rfl) (by simp only [List.set_cons_zero, List.set_cons_succ]; rfl) ?_)
                refine Fx.done (fun w3 hC => ?_)
                have HC := Lib.hid hC
                clear hC b0 b1 b2 b3 b4 c0 c1 c2
                go_wp2
                go_ret
                exact rhap_no (HR1.out.ext HC.out) (HE1.out.trans HC.out) (by
                  have e := Hrc.out
                  rw [Hrng.out, Hres.out]
                  have e2 : decide (h.m.c = (cn : Int) + 1) = false := by simpa using e
                  rw [e2]; simp)
              | false =>
                iterate 3
                  first
                    | refine Fx.skip rfl rfl (by simp only [List.set_cons_zero, List.set_cons_succ]; rfl) ?_
                    | (with_reducible refine Fx.lab0 ?_
                       first
                         | refine Fx.moveT rfl rfl rfl (by simp only [List.set_cons_zero, List.set_cons_succ]; rfl) ?_
                         | refine Fx.assignT rfl rfl rfl (by simp only [List.set_cons_zero, List.set_cons_succ]; rfl) ?_
                         | refine Fx.pure_ rfl rfl (fun _ => by go_simp; first | done | rfl) (by simp only [List.set_cons_zero, List.set_cons_succ]; rfl) ?_)
                    | (with_reducible refine Fx.lab1 ?_
                       refine Fx.look rfl rfl (fun w' hC => by obtain ⟨hc, hf, hl⟩ := Ext.cells hC; go_simp; rfl) (by simp only [List.set_cons_zero, List.set_cons_succ]; rfl) ?_)
                refine Fx.done (fun w3 hC => ?_)
                obtain ⟨xc, xf, xl⟩ := hC.cells
                replace b0 := (xc _ _ bl).trans b0
                replace b1 := (xc _ _ bl).trans b1
                replace b2 := (xc _ _ bl).trans b2
                replace b3 := (xc _ _ bl).trans b3
                replace b4 := (xc _ _ bl).trans b4
                replace bl := xl _ bl
                replace c0 := (xc _ _ lb).trans c0
                replace c1 := (xc _ _ lb).trans c1
                replace c2 := (xc _ _ lb).trans c2
                replace lb := xl _ lb
                clear xc xf xl
                have HR3 := Lib.hid (HR1.out.ext hC)
                have HE3 := Lib.hid (HE1.out.trans hC)
                have fb := HR3.out.obj.free 0
                have hda := HR3.out.da
                have Hda := Lib.hid hda
                clear hC hda
                go_upto_region 9 with fail
                refine wp_region_plan [(0,0),(1,0),(2,0),(3,0),(4,1),(5,0),(6,1),(7,2),(8,3),(9,0),(10,0),(11,3)] (by kernel_rfl) (by kernel_rfl) (by kernel_rfl) (Ext w3) (fun _ _ h k => h.trans k) (Ext.drawn _ _) ?_
                iterate 6
                  first
                    | refine Fx.skip rfl rfl (by simp only [List.set_cons_zero, List.set_cons_succ]; rfl) ?_
                    | (with_reducible refine Fx.lab0 ?_
                       first
                         | refine Fx.moveT rfl rfl rfl (by simp only [List.set_cons_zero, List.set_cons_succ]; rfl) ?_
                         | refine Fx.assignT rfl rfl rfl (by simp only [List.set_cons_zero, List.set_cons_succ]; rfl) ?_
                         | refine Fx.pure_ rfl rfl (fun _ => by go_simp; first | done | rfl) (by simp only [List.set_cons_zero, List.set_cons_succ]; rfl) ?_)
                    | (with_reducible refine Fx.lab1 ?_
                       refine Fx.look rfl rfl (fun w' hC => by obtain ⟨hc, hf, hl⟩ := Ext.cells hC; go_simp; rfl) (by simp only [List.set_cons_zero, List.set_cons_succ]; rfl) ?_)
                refine Fx.look rfl rfl (op_load_Ms' (m := h.m) bl b2 b3 b4 rfl) (by simp only [List.set_cons_zero, List.set_cons_succ]; rfl) ?_
                refine Fx.mkSl 1 1 (fun B w' => MsL w' (.slice (some ⟨B, 0, none⟩) 1 1) [h.m]) (fun B _ _ h k => h.ext k) rfl rfl (fun w' hC => stepAt_lit1 hC h.m rfl) (fun B => ?_)
                simp only [List.set_cons_zero, List.set_cons_succ]
                refine Fx.eff (fun v' w' => OwnMs w' v' (ρ.A ++ [h.m]) ∧ Mods (fun c => (Value.slice aA ρ.A.length acap).ownBlock = some c) w3 w' ∧ (∀ c, v'.ownBlock = some c → (Value.slice aA ρ.A.length acap).ownBlock = some c ∨ w3.heap.size ≤ c)) (fun v _ _ h k => ⟨h.1.ext k, h.2.1.then_ k, h.2.2⟩) rfl rfl
                  (fun w' hC => stepAt_append hC.1 (HR3.out.a.ext hC.1) hC.2 (by simp; omega) rfl rfl) (fun av' => ?_)
                simp only [List.set_cons_zero, List.set_cons_succ]
                iterate 2
                  first
                    | refine Fx.skip rfl rfl (by simp only [List.set_cons_zero, List.set_cons_succ]; rfl) ?_
                    | (with_reducible refine Fx.lab0 ?_
                       first
                         | refine Fx.moveT rfl rfl rfl (by simp only [List.set_cons_zero, List.set_cons_succ]; rfl) ?_
                         | refine Fx.assignT rfl rfl rfl (by simp only [List.set_cons_zero, List.set_cons_succ]; rfl) ?_
                         | refine Fx.pure_ rfl rfl (fun _ => by go_simp; first | done | rfl) (by simp only [List.set_cons_zero, List.set_cons_succ]; rfl) ?_)
                    | (with_reducible refine Fx.lab1 ?_
                       refine Fx.look rfl rfl (fun w' hC => by obtain ⟨hc, hf, hl⟩ := Ext.cells hC; go_simp; rfl) (by simp only [List.set_cons_zero, List.set_cons_succ]; rfl) ?_)
                refine Fx.store ⟨rb, 0, none⟩ av' rfl rfl (fun w' hC => by
                  obtain ⟨hc, hf, hl⟩ := hC.2.1.cells
                  have e1 := (hc rb 0 lb (fun h => (Hda.out _ h).1 rfl)).trans c0
                  have e2 := (hf rb 0 lb (fun h => (Hda.out _ h).1 rfl)).trans fb
                  obtain ⟨A, n, vv⟩ : ∃ A n cap, av' = .slice A n cap := by obtain ⟨A, cap, e, _⟩ := hC.1.val; exact ⟨_, _, _, e⟩
                  obtain ⟨cap, rfl⟩ := vv
                  clear hc hf hl hC
                  go_simp) ?_
                refine Fx.done (fun w6 hC => ?_)
                obtain ⟨w5, ⟨h5, h5', h5''⟩, h6⟩ := hC
                have HF := Lib.hid (HR3.out.addA h5 h5' h5'' h6)
                have HO := Lib.hid h5''
                clear h5 h5' h5'' h6 b0 b1 b2 b3 b4 c0 c1 c2
                go_wp2
                go_ret
                have eB : refB ρ h = true := by
                  have e := Hrc.out
                  rw [Hrng.out, Hres.out]
                  have e2 : decide (h.m.c = (cn : Int) + 1) = true := by simpa using e
                  have e3 := Hf.out
                  rw [e2]; simp [e3]
                refine ⟨by rw [eB]; rfl, av', _, ?_, HF.out.2.after HE3.out, fun y hy => (HO.out y hy).imp id (fun h => Nat.le_trans HE3.out.size h), fun y hy => .inl hy⟩
                unfold refT refS
                rw [if_pos eB, if_pos Hk.out]
                exact HF.out.1
            · have hfb : (h.m.f != (nd : Int)) = true := by simpa using hf
              have Hf := Lib.hid hf
              clear hf
              iterate 26
                first
                  | refine Fx.skip rfl rfl (by simp only [List.set_cons_zero, List.set_cons_succ]; rfl) ?_
                  | (with_reducible refine Fx.lab0 ?_
                     first
                       | refine Fx.moveT rfl rfl rfl (by simp only [List.set_cons_zero, List.set_cons_succ]; rfl) ?_
                       | refine Fx.assignT rfl rfl rfl (by simp only [List.set_cons_zero, List.set_cons_succ]; rfl) ?_
                       | refine Fx.pure_ rfl rfl (fun _ => by go_simp; first | done | rfl) (by simp only [List.set_cons_zero, List.set_cons_succ]; rfl) ?_)
                  | (with_reducible refine Fx.lab1 ?_
                     refine Fx.look rfl rfl (fun w' hC => by obtain ⟨hc, hf, hl⟩ := Ext.cells hC; go_simp; rfl) (by simp only [List.set_cons_zero, List.set_cons_succ]; rfl) ?_)
              refine Fx.done (fun w3 hC => ?_)
              have HC := Lib.hid hC
              clear hC b0 b1 b2 b3 b4 c0 c1 c2
              go_wp2
              go_ret
              exact rhap_no (HR1.out.ext HC.out) (HE1.out.trans HC.out) (by
                have e := Hf.out
                rw [Hrng.out, Hres.out]; simp [e])
        · by_cases hk3 : h.k = 3
          · have q1 : (h.k == 2) = false := by simp [hk3]
            have q2 : (h.k == 1) = false := by simp [hk3]
            have q3 : (h.k != 3) = false := by simp [hk3]
            have Hk := Lib.hid hk3
            have hnlt : nd < ρ.n := by have := HN.out; omega
            have Hnlt := Lib.hid hnlt
            obtain ⟨q, hq⟩ : ∃ q, ρ.D nd = q := ⟨_, rfl⟩
            have hqL := HD.out nd
            rw [hq] at hqL
            have hres : refR ρ h = (if q = ρ.L.length then decide (h.m ∈ ρ.A) && decide (h.m.c = (countF ρ.L h.m.f : Int) + 1) else decide (ρ.L[q]? = some h.m)) := by
              unfold refR
              rw [if_neg hk2, if_neg hk1, if_pos hk3, show h.n.toNat = nd from by omega, hq]
            have hst : refB ρ h = true → refT ρ h = { ρ with L := if q = ρ.L.length then ρ.L ++ [h.m] else ρ.L, D := updI ρ.D nd (q + 1) } := fun e => by
              unfold refT refS
              rw [if_pos e, if_neg hk1, if_pos hk3, show h.n.toNat = nd from by omega, hq]
            have Hres := Lib.hid hres
            have Hst := Lib.hid hst
            have Hq := Lib.hid hq
            have hw1 : IntKind.i64.wrap ((q : Int) + 1) = ((q + 1 : Nat) : Int) := by rw [IntWalk.i64_in _ ⟨by omega, by omega⟩]; push_cast; rfl
            have cd := HR1.out.ds.cell nd hnlt
            rw [hq] at cd
            have ld := HR1.out.ds.lt
            have hndI : (nd : Int) < N := by omega
            clear hk1 hk2 hk3 hnd hres hst hq hnlt
            go_upto_region 13 with fail
            refine wp_region_plan [(0,0),(1,0),(2,0),(3,1),(4,0),(5,1),(6,0),(7,1),(8,0)] (by kernel_rfl) (by kernel_rfl) (by kernel_rfl) (Ext w1) (fun _ _ h k => h.trans k) (Ext.drawn _ _) ?_
            iterate 9
              first
                | refine Fx.skip rfl rfl (by simp only [List.set_cons_zero, List.set_cons_succ]; rfl) ?_
                | (with_reducible refine Fx.lab0 ?_
                   first
                     | refine Fx.moveT rfl rfl rfl (by simp only [List.set_cons_zero, List.set_cons_succ]; rfl) ?_
                     | refine Fx.assignT rfl rfl rfl (by simp only [List.set_cons_zero, List.set_cons_succ]; rfl) ?_
                     | refine Fx.pure_ rfl rfl (fun _ => by go_simp; first | done | rfl) (by simp only [List.set_cons_zero, List.set_cons_succ]; rfl) ?_)
                | (with_reducible refine Fx.lab1 ?_
                   refine Fx.look rfl rfl (fun w' hC => by obtain ⟨hc, hf, hl⟩ := Ext.cells hC; go_simp; rfl) (by simp only [List.set_cons_zero, List.set_cons_succ]; rfl) ?_)
            refine Fx.done (fun w2 hC => ?_)
            obtain ⟨xc, xf, xl⟩ := hC.cells
            replace b0 := (xc _ _ bl).trans b0
            replace b1 := (xc _ _ bl).trans b1
            replace b2 := (xc _ _ bl).trans b2
            replace b3 := (xc _ _ bl).trans b3
            replace b4 := (xc _ _ bl).trans b4
            replace bl := xl _ bl
            replace c0 := (xc _ _ lb).trans c0
            replace c1 := (xc _ _ lb).trans c1
            replace c2 := (xc _ _ lb).trans c2
            replace lb := xl _ lb
            clear xc xf xl
            have HR2 := Lib.hid (HR1.out.ext hC)
            have HE2 := Lib.hid (HE1.out.trans hC)
            clear hC cd ld
            by_cases hqq : q = ρ.L.length
            · have qb : ((q : Int) == (ρ.L.length : Int)) = true := by simp; omega
              obtain ⟨ra, hra⟩ : ∃ ra, decide (h.m ∈ ρ.A) = ra := ⟨_, rfl⟩
              obtain ⟨cn, hcn⟩ : ∃ cn, countF ρ.L h.m.f = cn := ⟨_, rfl⟩
              have hcn1 : cn ≤ 1000000 := by rw [← hcn]; exact Nat.le_trans (countF_le _ _) hlL
              have hcnt : ∀ w', Ext w2 w' → Calls Try.prog 28 #[.slice lA ρ.L.length lcap, .int .i64 h.m.f] w' (fun e w'' => e = .returned (.int .u32 (cn : Int)) ∧ Ext w' w'') := fun w' hx => by
                refine (count_ref _ ρ.L h.m.f w' ((HR2.out.ext hx).l.sl Ms.len) (by omega)).mono ?_
                rintro e w'' ⟨h1, h2⟩
                subst h2
                exact ⟨by rw [h1, hcn], Ext.refl _⟩
              have Hcnt := Lib.hid hcnt
              have hhas : ∀ w', Ext w2 w' → Calls Try.prog 29 #[.slice aA ρ.A.length acap, h.m.val] w' (fun e w'' => e = .returned (.bool ra) ∧ Ext w' w'') := fun w' hx => by
                have := has_ref _ ρ.A h.m w' ((HR2.out.ext hx).a.sl Ms.len) (by omega)
                rw [hra] at this
                exact this
              have Hhas := Lib.hid hhas
              have hres2 : refR ρ h = (ra && decide (h.m.c = (cn : Int) + 1)) := by rw [Hres.out, if_pos hqq, hra, hcn]
              have Hres2 := Lib.hid hres2
              have Hqq := Lib.hid hqq
              have hw : IntKind.u32.wrap ((cn : Int) + 1) = (cn : Int) + 1 := IntWalk.u32_in _ ⟨by omega, by omega⟩
              clear hcnt hhas hres2 hra hcn hqq
              go_upto_region 15 with fail
              refine wp_region_plan [(0,0),(1,0),(2,0),(3,1),(4,0),(5,1),(6,1),(7,0),(8,0),(9,0),(10,0),(11,0),(12,1),(13,0),(14,0),(15,0),(16,1),(17,0),(18,0),(19,0),(20,1),(21,1),(22,0),(23,0),(24,0)] (by kernel_rfl) (by kernel_rfl) (by kernel_rfl) (Ext w2) (fun _ _ h k => h.trans k) (Ext.drawn _ _) ?_
              iterate 5
                first
                  | refine Fx.skip rfl rfl (by simp only [List.set_cons_zero, List.set_cons_succ]; rfl) ?_
                  | (with_reducible refine Fx.lab0 ?_
                     first
                       | refine Fx.moveT rfl rfl rfl (by simp only [List.set_cons_zero, List.set_cons_succ]; rfl) ?_
                       | refine Fx.assignT rfl rfl rfl (by simp only [List.set_cons_zero, List.set_cons_succ]; rfl) ?_
                       | refine Fx.pure_ rfl rfl (fun _ => by go_simp; first | done | rfl) (by simp only [List.set_cons_zero, List.set_cons_succ]; rfl) ?_)
                  | (with_reducible refine Fx.lab1 ?_
                     refine Fx.look rfl rfl (fun w' hC => by obtain ⟨hc, hf, hl⟩ := Ext.cells hC; go_simp; rfl) (by simp only [List.set_cons_zero, List.set_cons_succ]; rfl) ?_)
              refine Fx.look rfl rfl (op_load_Ms' (m := h.m) bl b2 b3 b4 rfl) (by simp only [List.set_cons_zero, List.set_cons_succ]; rfl) ?_
              refine Fx.call1 (args := #[.slice aA ρ.A.length acap, h.m.val]) rfl rfl (fun _ => by first | (go_simp; done) | (go_simp; rfl)) (fun w' hC' => Hhas.out w' hC') (by simp only [List.set_cons_zero, List.set_cons_succ]; rfl) ?_
              cases ra with
              | false =>
                iterate 18
                  first
                    | refine Fx.skip rfl rfl (by simp only [List.set_cons_zero, List.set_cons_succ]; rfl) ?_
                    | (with_reducible refine Fx.lab0 ?_
                       first
                         | refine Fx.moveT rfl rfl rfl (by simp only [List.set_cons_zero, List.set_cons_succ]; rfl) ?_
                         | refine Fx.assignT rfl rfl rfl (by simp only [List.set_cons_zero, List.set_cons_succ]; rfl) ?_
                         | refine Fx.pure_ rfl rfl (fun _ => by go_simp; first | done | rfl) (by simp only [List.set_cons_zero, List.set_cons_succ]; rfl) ?_)
                    | (with_reducible refine Fx.lab1 ?_
                       refine Fx.look rfl rfl (fun w' hC => by obtain ⟨hc, hf, hl⟩ := Ext.cells hC; go_simp; rfl) (by simp only [List.set_cons_zero, List.set_cons_succ]; rfl) ?_)
                refine Fx.done (fun w3 hC => ?_)
                have HC := Lib.hid hC
                clear hC b0 b1 b2 b3 b4 c0 c1 c2
                go_wp2
                go_ret
                exact rhap_no (HR2.out.ext HC.out) (HE2.out.trans HC.out) (by rw [Hrng.out, Hres2.out]; rfl)
              | true =>
                obtain ⟨rc, hrc⟩ : ∃ rc, (h.m.c != (cn : Int) + 1) = rc := ⟨_, rfl⟩
                have Hrc := Lib.hid hrc
                iterate 14
                  first
                    | refine Fx.skip rfl rfl (by simp only [List.set_cons_zero, List.set_cons_succ]; rfl) ?_
                    | (with_reducible refine Fx.lab0 ?_
                       first
                         | refine Fx.moveT rfl rfl rfl (by simp only [List.set_cons_zero, List.set_cons_succ]; rfl) ?_
                         | refine Fx.assignT rfl rfl rfl (by simp only [List.set_cons_zero, List.set_cons_succ]; rfl) ?_
                         | refine Fx.pure_ rfl rfl (fun _ => by go_simp; first | done | rfl) (by simp only [List.set_cons_zero, List.set_cons_succ]; rfl) ?_)
                    | (with_reducible refine Fx.lab1 ?_
                       refine Fx.look rfl rfl (fun w' hC => by obtain ⟨hc, hf, hl⟩ := Ext.cells hC; go_simp; rfl) (by simp only [List.set_cons_zero, List.set_cons_succ]; rfl) ?_)
                refine Fx.call1 (args := #[.slice lA ρ.L.length lcap, .int .i64 h.m.f]) rfl rfl (fun _ => by first | (go_simp; done) | (go_simp; rfl)) (fun w' hC' => Hcnt.out w' hC') (by simp only [List.set_cons_zero, List.set_cons_succ]; rfl) ?_
                cases rc with
                | true =>
                  iterate 3
                    first
                      | refine Fx.skip rfl rfl (by simp only [List.set_cons_zero, List.set_cons_succ]; rfl) ?_
                      | (with_reducible refine Fx.lab0 ?_
                         first
                           | refine Fx.moveT rfl rfl rfl (by simp only [List.set_cons_zero, List.set_cons_succ]; rfl) ?_
                           | refine Fx.assignT rfl rfl rfl (by simp only [List.set_cons_zero, List.set_cons_succ]; rfl) ?_
                           | refine Fx.pure_ rfl rfl (fun _ => by go_simp; first | done | rfl) (by simp only [List.set_cons_zero, List.set_cons_succ]; rfl) ?_)
                      | (with_reducible refine Fx.lab1 ?_
                         refine Fx.look rfl rfl (fun w' hC => by obtain ⟨hc, hf, hl⟩ := Ext.cells hC; go_simp; rfl) (by simp only [List.set_cons_zero, List.set_cons_succ]; rfl) ?_)
                  refine Fx.done (fun w3 hC => ?_)
                  have HC := Lib.hid hC
                  clear hC b0 b1 b2 b3 b4 c0 c1 c2
                  go_wp2
                  go_ret
                  exact rhap_no (HR2.out.ext HC.out) (HE2.out.trans HC.out) (by
                    have e := Hrc.out
                    rw [Hrng.out, Hres2.out]
                    have e2 : decide (h.m.c = (cn : Int) + 1) = false := by simpa using e
                    rw [e2]; simp)
                | false =>
                  iterate 3
                    first
                      | refine Fx.skip rfl rfl (by simp only [List.set_cons_zero, List.set_cons_succ]; rfl) ?_
                      | (with_reducible refine Fx.lab0 ?_
                         first
                           | refine Fx.moveT rfl rfl rfl (by simp only [List.set_cons_zero, List.set_cons_succ]; rfl) ?_
                           | refine Fx.assignT rfl rfl rfl (by simp only [List.set_cons_zero, List.set_cons_succ]; rfl) ?_
                           | refine Fx.pure_ rfl rfl (fun _ => by go_simp; first | done | rfl) (by simp only [List.set_cons_zero, List.set_cons_succ]; rfl) ?_)
                      | (with_reducible refine Fx.lab1 ?_
                         refine Fx.look rfl rfl (fun w' hC => by obtain ⟨hc, hf, hl⟩ := Ext.cells hC; go_simp; rfl) (by simp only [List.set_cons_zero, List.set_cons_succ]; rfl) ?_)
                  refine Fx.done (fun w3 hC => ?_)
                  obtain ⟨xc, xf, xl⟩ := hC.cells
                  replace b0 := (xc _ _ bl).trans b0
                  replace b1 := (xc _ _ bl).trans b1
                  replace b2 := (xc _ _ bl).trans b2
                  replace b3 := (xc _ _ bl).trans b3
                  replace b4 := (xc _ _ bl).trans b4
                  replace bl := xl _ bl
                  replace c0 := (xc _ _ lb).trans c0
                  replace c1 := (xc _ _ lb).trans c1
                  replace c2 := (xc _ _ lb).trans c2
                  replace lb := xl _ lb
                  clear xc xf xl
                  have HR3 := Lib.hid (HR2.out.ext hC)
                  have HE3 := Lib.hid (HE2.out.trans hC)
                  have fb := HR3.out.obj.free 1
                  have hda := HR3.out.dl
                  have Hda := Lib.hid hda
                  have eB : refB ρ h = true := by
                    have e := Hrc.out
                    rw [Hrng.out, Hres2.out]
                    have e2 : decide (h.m.c = (cn : Int) + 1) = true := by simpa using e
                    rw [e2]; rfl
                  have HB := Lib.hid eB
                  clear hC hda eB hrc
                  go_upto_region 17 with fail
                  refine wp_region_plan [(0,0),(1,0),(2,0),(3,0),(4,1),(5,0),(6,1),(7,2),(8,3),(9,0),(10,0),(11,3)] (by kernel_rfl) (by kernel_rfl) (by kernel_rfl) (Ext w3) (fun _ _ h k => h.trans k) (Ext.drawn _ _) ?_
                  iterate 6
                    first
                      | refine Fx.skip rfl rfl (by simp only [List.set_cons_zero, List.set_cons_succ]; rfl) ?_
                      | (with_reducible refine Fx.lab0 ?_
                         first
                           | refine Fx.moveT rfl rfl rfl (by simp only [List.set_cons_zero, List.set_cons_succ]; rfl) ?_
                           | refine Fx.assignT rfl rfl rfl (by simp only [List.set_cons_zero, List.set_cons_succ]; rfl) ?_
                           | refine Fx.pure_ rfl rfl (fun _ => by go_simp; first | done | rfl) (by simp only [List.set_cons_zero, List.set_cons_succ]; rfl) ?_)
                      | (with_reducible refine Fx.lab1 ?_
                         refine Fx.look rfl rfl (fun w' hC => by obtain ⟨hc, hf, hl⟩ := Ext.cells hC; go_simp; rfl) (by simp only [List.set_cons_zero, List.set_cons_succ]; rfl) ?_)
                  refine Fx.look rfl rfl (op_load_Ms' (m := h.m) bl b2 b3 b4 rfl) (by simp only [List.set_cons_zero, List.set_cons_succ]; rfl) ?_
                  refine Fx.mkSl 1 1 (fun B w' => MsL w' (.slice (some ⟨B, 0, none⟩) 1 1) [h.m]) (fun B _ _ h k => h.ext k) rfl rfl (fun w' hC => stepAt_lit1 hC h.m rfl) (fun B => ?_)
                  simp only [List.set_cons_zero, List.set_cons_succ]
                  refine Fx.eff (fun v' w' => OwnMs w' v' (ρ.L ++ [h.m]) ∧ Mods (fun c => (Value.slice lA ρ.L.length lcap).ownBlock = some c) w3 w' ∧ (∀ c, v'.ownBlock = some c → (Value.slice lA ρ.L.length lcap).ownBlock = some c ∨ w3.heap.size ≤ c)) (fun v _ _ h k => ⟨h.1.ext k, h.2.1.then_ k, h.2.2⟩) rfl rfl
                    (fun w' hC => stepAt_append hC.1 (HR3.out.l.ext hC.1) hC.2 (by simp; omega) rfl rfl) (fun lv' => ?_)
                  simp only [List.set_cons_zero, List.set_cons_succ]
                  iterate 2
                    first
                      | refine Fx.skip rfl rfl (by simp only [List.set_cons_zero, List.set_cons_succ]; rfl) ?_
                      | (with_reducible refine Fx.lab0 ?_
                         first
                           | refine Fx.moveT rfl rfl rfl (by simp only [List.set_cons_zero, List.set_cons_succ]; rfl) ?_
                           | refine Fx.assignT rfl rfl rfl (by simp only [List.set_cons_zero, List.set_cons_succ]; rfl) ?_
                           | refine Fx.pure_ rfl rfl (fun _ => by go_simp; first | done | rfl) (by simp only [List.set_cons_zero, List.set_cons_succ]; rfl) ?_)
                      | (with_reducible refine Fx.lab1 ?_
                         refine Fx.look rfl rfl (fun w' hC => by obtain ⟨hc, hf, hl⟩ := Ext.cells hC; go_simp; rfl) (by simp only [List.set_cons_zero, List.set_cons_succ]; rfl) ?_)
                  refine Fx.store ⟨rb, 1, none⟩ lv' rfl rfl (fun w' hC => by
                    obtain ⟨hc, hf, hl⟩ := hC.2.1.cells
                    have e1 := (hc rb 1 lb (fun h => (Hda.out _ h).1 rfl)).trans c1
                    have e2 := (hf rb 1 lb (fun h => (Hda.out _ h).1 rfl)).trans fb
                    obtain ⟨A, n, vv⟩ : ∃ A n cap, lv' = .slice A n cap := by obtain ⟨A, cap, e, _⟩ := hC.1.val; exact ⟨_, _, _, e⟩
                    obtain ⟨cap, rfl⟩ := vv
                    clear hc hf hl hC
                    go_simp) ?_
                  refine Fx.done (fun wt hC => ?_)
                  obtain ⟨w5, ⟨h5, h5', h5''⟩, h6⟩ := hC
                  have hadd := HR3.out.addL h5 h5' h5'' h6
                  have HRt := Lib.hid hadd.1
                  have HRt := Lib.hid hadd.1
                  have HEt := Lib.hid (hadd.2.after HE3.out)
                  have HO := Lib.hid h5''
                  obtain ⟨xc, xf, xl⟩ := hadd.2.cells
                  have hnf : ¬ FR rb db (.slice aA ρ.A.length acap) (.slice lA ρ.L.length lcap) w.heap.size := fun hx => Nat.lt_irrefl _ (Hlt0.out _ hx)
                  replace b0 := (xc _ _ bl hnf).trans b0
                  replace b1 := (xc _ _ bl hnf).trans b1
                  replace b2 := (xc _ _ bl hnf).trans b2
                  replace b3 := (xc _ _ bl hnf).trans b3
                  replace b4 := (xc _ _ bl hnf).trans b4
                  replace bl := xl _ bl
                  clear xc xf xl hnf h5 h5' h5'' h6 c0 c1 c2 lb fb hadd
                  obtain ⟨g, gcap, hgv, gl, g0, g1, g2⟩ := HRt.out.l.cellAt (j := q) (by simp; have := Hqq.out; omega)
                  subst hgv
                  have c0 := HRt.out.obj.cell 0 (by decide)
                  have c1 := HRt.out.obj.cell 1 (by decide)
                  have c2 := HRt.out.obj.cell 2 (by decide)
                  have lb := HRt.out.obj.lt
                  simp only [rF, List.getD_cons_zero, List.getD_cons_succ] at c0 c1 c2
                  rw [HN.out] at c2
                  have hy : (ρ.L ++ [h.m])[q]'(by simp; have := Hqq.out; omega) = h.m := by have := Hqq.out; subst this; simp
                  simp only at g0 g1 g2
                  rw [hy] at g0 g1 g2
                  have hdi : (q : Int) < (ρ.L ++ [h.m]).length := by simp; have := Hqq.out; omega
                  obtain ⟨r, hr⟩ : ∃ r, decide (h.m = h.m) = r := ⟨_, rfl⟩
                  have hrt : r = true := by rw [← hr]; simp
                  have Hr := Lib.hid hr
                  obtain ⟨y, hyy⟩ : ∃ y, h.m = y := ⟨_, rfl⟩
                  clear hr hy
                  rw [hyy] at g0 g1 g2
                  generalize (ρ.L ++ [h.m]).length = LL at c1 hdi ⊢
                  have Hyy := Lib.hid hyy
                  clear hyy
                  replace Hr : Hid (decide (y = h.m) = r) := Lib.hid (by rw [← Hyy.out]; exact Hr.out)
                  go_upto_region 18 with fail
                  refine wp_region_plan [(0,0),(1,0),(2,0),(3,1),(4,0),(5,0),(6,1),(7,0),(8,1),(9,0)] (by kernel_rfl) (by kernel_rfl) (by kernel_rfl) (Ext wt) (fun _ _ h k => h.trans k) (Ext.drawn _ _) ?_
                  iterate 6
                    first
                      | refine Fx.skip rfl rfl (by simp only [List.set_cons_zero, List.set_cons_succ]; rfl) ?_
                      | (with_reducible refine Fx.lab0 ?_
                         first
                           | refine Fx.moveT rfl rfl rfl (by simp only [List.set_cons_zero, List.set_cons_succ]; rfl) ?_
                           | refine Fx.assignT rfl rfl rfl (by simp only [List.set_cons_zero, List.set_cons_succ]; rfl) ?_
                           | refine Fx.pure_ rfl rfl (fun _ => by go_simp; first | done | rfl) (by simp only [List.set_cons_zero, List.set_cons_succ]; rfl) ?_)
                      | (with_reducible refine Fx.lab1 ?_
                         refine Fx.look rfl rfl (fun w' hC => by obtain ⟨hc, hf, hl⟩ := Ext.cells hC; go_simp; rfl) (by simp only [List.set_cons_zero, List.set_cons_succ]; rfl) ?_)
                  refine Fx.look rfl rfl (op_load_Ms' (m := y) gl g0 g1 g2 rfl) (by simp only [List.set_cons_zero, List.set_cons_succ]; rfl) ?_
                  first
                    | refine Fx.skip rfl rfl (by simp only [List.set_cons_zero, List.set_cons_succ]; rfl) ?_
                    | (with_reducible refine Fx.lab0 ?_
                       first
                         | refine Fx.moveT rfl rfl rfl (by simp only [List.set_cons_zero, List.set_cons_succ]; rfl) ?_
                         | refine Fx.assignT rfl rfl rfl (by simp only [List.set_cons_zero, List.set_cons_succ]; rfl) ?_
                         | refine Fx.pure_ rfl rfl (fun _ => by go_simp; first | done | rfl) (by simp only [List.set_cons_zero, List.set_cons_succ]; rfl) ?_)
                    | (with_reducible refine Fx.lab1 ?_
                       refine Fx.look rfl rfl (fun w' hC => by obtain ⟨hc, hf, hl⟩ := Ext.cells hC; go_simp; rfl) (by simp only [List.set_cons_zero, List.set_cons_succ]; rfl) ?_)
                  refine Fx.look rfl rfl (op_load_Ms' (m := h.m) bl b2 b3 b4 rfl) (by simp only [List.set_cons_zero, List.set_cons_succ]; rfl) ?_
                  refine Fx.pure_ (v := .bool (!r)) rfl rfl (fun w => by rw [op_neq_Ms y h.m rfl rfl, ← Hr.out]) (by simp only [List.set_cons_zero, List.set_cons_succ]; rfl) ?_
                  refine Fx.done (fun wu hC => ?_)
                  obtain ⟨xc, xf, xl⟩ := hC.cells
                  replace b0 := (xc _ _ bl).trans b0
                  replace b1 := (xc _ _ bl).trans b1
                  replace b2 := (xc _ _ bl).trans b2
                  replace b3 := (xc _ _ bl).trans b3
                  replace b4 := (xc _ _ bl).trans b4
                  replace bl := xl _ bl
                  replace c0 := (xc _ _ lb).trans c0
                  replace c1 := (xc _ _ lb).trans c1
                  replace c2 := (xc _ _ lb).trans c2
                  replace lb := xl _ lb
                  clear xc xf xl
                  have HRu := Lib.hid (HRt.out.ext hC)
                  have HEu := Lib.hid (HEt.out.then_ hC)
                  clear hC g0 g1 g2 gl
                  subst hrt
                  go_upto_region 20 with fail
                  have cd := HRu.out.ds.cell nd Hnlt.out
                  rw [Hq.out] at cd
                  have ld := HRu.out.ds.lt
                  have fd := HRu.out.ds.free nd
                  refine wp_region_plan [(0,0),(1,0),(2,0),(3,1),(4,0),(5,1),(6,0),(7,0),(8,0),(9,3)] (by kernel_rfl) (by kernel_rfl) (by kernel_rfl) (Ext wu) (fun _ _ h k => h.trans k) (Ext.drawn _ _) ?_
                  iterate 9
                    first
                      | refine Fx.skip rfl rfl (by simp only [List.set_cons_zero, List.set_cons_succ]; rfl) ?_
                      | (with_reducible refine Fx.lab0 ?_
                         first
                           | refine Fx.moveT rfl rfl rfl (by simp only [List.set_cons_zero, List.set_cons_succ]; rfl) ?_
                           | refine Fx.assignT rfl rfl rfl (by simp only [List.set_cons_zero, List.set_cons_succ]; rfl) ?_
                           | refine Fx.pure_ rfl rfl (fun _ => by go_simp; first | done | rfl) (by simp only [List.set_cons_zero, List.set_cons_succ]; rfl) ?_)
                      | (with_reducible refine Fx.lab1 ?_
                         refine Fx.look rfl rfl (fun w' hC => by obtain ⟨hc, hf, hl⟩ := Ext.cells hC; go_simp; rfl) (by simp only [List.set_cons_zero, List.set_cons_succ]; rfl) ?_)
                  refine Fx.store ⟨db, nd, none⟩ (.int .i64 ((q + 1 : Nat) : Int)) rfl rfl (fun w' hC => by
                    obtain ⟨hc, hf, hl⟩ := Ext.cells hC
                    have e1 := (hc _ nd ld).trans cd
                    have e2 := (hf _ nd ld).trans fd
                    clear hc hf hl
                    go_simp) ?_
                  refine Fx.done (fun w9 hC => ?_)
                  obtain ⟨wx, x1, x2⟩ := hC
                  have HF := Lib.hid ((HRu.out.ext x1).setD Hnlt.out x2)
                  have HMf := Lib.hid ((HEu.out.then_ x1).trans HF.out.2 (fun _ _ h => .inr (.inl h)))
                  clear x1 x2 cd ld fd b0 b1 b2 b3 b4 bl c0 c1 c2 lb
                  go_wp2
                  go_ret
                  have e := Hst.out HB.out
                  rw [if_pos Hqq.out] at e
                  refine ⟨by rw [HB.out]; rfl, _, _, ?_, HMf.out, fun y hy => .inl hy, fun y hy => (HO.out y hy).imp id (fun h => Nat.le_trans HE3.out.size h)⟩
                  rw [e]
                  exact HF.out.1
            · have qb : ((q : Int) == (ρ.L.length : Int)) = false := by simp; omega
              have hqlt : q < ρ.L.length := by omega
              obtain ⟨g, gcap, hgv, gl, g0, g1, g2⟩ := HR2.out.l.cellAt hqlt
              injection hgv with e1 e2 e3
              subst e1
              subst e3
              have hget : ρ.L[q]? = some ρ.L[q] := List.getElem?_eq_getElem hqlt
              have hdi : (q : Int) < ρ.L.length := by omega
              obtain ⟨y, hy⟩ : ∃ y, ρ.L[q] = y := ⟨_, rfl⟩
              rw [hy] at g0 g1 g2 hget
              obtain ⟨r, hr⟩ : ∃ r, decide (y = h.m) = r := ⟨_, rfl⟩
              have hres2 : refR ρ h = r := by rw [Hres.out, if_neg hqq, hget, ← hr]; simp
              have Hres2 := Lib.hid hres2
              have Hr := Lib.hid hr
              have Hqq := Lib.hid hqq
              obtain ⟨wt, hwt⟩ : ∃ wt, wt = w2 := ⟨_, rfl⟩
              subst hwt
              have HRt := Lib.hid HR2.out
              have HEt : Hid (Mods (FR rb db (.slice aA ρ.A.length acap) (.slice (some ⟨g, 0, none⟩) ρ.L.length lcap)) w wt) := Lib.hid (HE2.out.mods _)
              clear hqq hqlt hget hy hr hres2
              go_upto_region 18 with fail
              refine wp_region_plan [(0,0),(1,0),(2,0),(3,1),(4,0),(5,0),(6,1),(7,0),(8,1),(9,0)] (by kernel_rfl) (by kernel_rfl) (by kernel_rfl) (Ext wt) (fun _ _ h k => h.trans k) (Ext.drawn _ _) ?_
              iterate 6
                first
                  | refine Fx.skip rfl rfl (by simp only [List.set_cons_zero, List.set_cons_succ]; rfl) ?_
                  | (with_reducible refine Fx.lab0 ?_
                     first
                       | refine Fx.moveT rfl rfl rfl (by simp only [List.set_cons_zero, List.set_cons_succ]; rfl) ?_
                       | refine Fx.assignT rfl rfl rfl (by simp only [List.set_cons_zero, List.set_cons_succ]; rfl) ?_
                       | refine Fx.pure_ rfl rfl (fun _ => by go_simp; first | done | rfl) (by simp only [List.set_cons_zero, List.set_cons_succ]; rfl) ?_)
                  | (with_reducible refine Fx.lab1 ?_
                     refine Fx.look rfl rfl (fun w' hC => by obtain ⟨hc, hf, hl⟩ := Ext.cells hC; go_simp; rfl) (by simp only [List.set_cons_zero, List.set_cons_succ]; rfl) ?_)
              refine Fx.look rfl rfl (op_load_Ms' (m := y) gl g0 g1 g2 rfl) (by simp only [List.set_cons_zero, List.set_cons_succ]; rfl) ?_
              first
                | refine Fx.skip rfl rfl (by simp only [List.set_cons_zero, List.set_cons_succ]; rfl) ?_
                | (with_reducible refine Fx.lab0 ?_
                   first
                     | refine Fx.moveT rfl rfl rfl (by simp only [List.set_cons_zero, List.set_cons_succ]; rfl) ?_
                     | refine Fx.assignT rfl rfl rfl (by simp only [List.set_cons_zero, List.set_cons_succ]; rfl) ?_
                     | refine Fx.pure_ rfl rfl (fun _ => by go_simp; first | done | rfl) (by simp only [List.set_cons_zero, List.set_cons_succ]; rfl) ?_)
                | (with_reducible refine Fx.lab1 ?_
                   refine Fx.look rfl rfl (fun w' hC => by obtain ⟨hc, hf, hl⟩ := Ext.cells hC; go_simp; rfl) (by simp only [List.set_cons_zero, List.set_cons_succ]; rfl) ?_)
              refine Fx.look rfl rfl (op_load_Ms' (m := h.m) bl b2 b3 b4 rfl) (by simp only [List.set_cons_zero, List.set_cons_succ]; rfl) ?_
              refine Fx.pure_ (v := .bool (!r)) rfl rfl (fun w => by rw [op_neq_Ms y h.m rfl rfl, ← Hr.out]) (by simp only [List.set_cons_zero, List.set_cons_succ]; rfl) ?_
              refine Fx.done (fun wu hC => ?_)
              obtain ⟨xc, xf, xl⟩ := hC.cells
              replace b0 := (xc _ _ bl).trans b0
              replace b1 := (xc _ _ bl).trans b1
              replace b2 := (xc _ _ bl).trans b2
              replace b3 := (xc _ _ bl).trans b3
              replace b4 := (xc _ _ bl).trans b4
              replace bl := xl _ bl
              replace c0 := (xc _ _ lb).trans c0
              replace c1 := (xc _ _ lb).trans c1
              replace c2 := (xc _ _ lb).trans c2
              replace lb := xl _ lb
              clear xc xf xl
              have HRu := Lib.hid (HRt.out.ext hC)
              have HEu := Lib.hid (HEt.out.then_ hC)
              clear hC g0 g1 g2 gl
              cases r with
              | false =>
                clear b0 b1 b2 b3 b4 c0 c1 c2
                simp only [Bool.not_false]
                go_wp2
                go_ret
                exact ⟨by rw [Hrng.out, Hres2.out]; rfl, _, _, by unfold refT; rw [Hrng.out, Hres2.out]; exact HRu.out, HEu.out, fun y hy => .inl hy, fun y hy => .inl hy⟩
              | true =>
                simp only [Bool.not_true]
                go_upto_region 20 with fail
                have cd := HRu.out.ds.cell nd Hnlt.out
                rw [Hq.out] at cd
                have ld := HRu.out.ds.lt
                have fd := HRu.out.ds.free nd
                refine wp_region_plan [(0,0),(1,0),(2,0),(3,1),(4,0),(5,1),(6,0),(7,0),(8,0),(9,3)] (by kernel_rfl) (by kernel_rfl) (by kernel_rfl) (Ext wu) (fun _ _ h k => h.trans k) (Ext.drawn _ _) ?_
                iterate 9
                  first
                    | refine Fx.skip rfl rfl (by simp only [List.set_cons_zero, List.set_cons_succ]; rfl) ?_
                    | (with_reducible refine Fx.lab0 ?_
                       first
                         | refine Fx.moveT rfl rfl rfl (by simp only [List.set_cons_zero, List.set_cons_succ]; rfl) ?_
                         | refine Fx.assignT rfl rfl rfl (by simp only [List.set_cons_zero, List.set_cons_succ]; rfl) ?_
                         | refine Fx.pure_ rfl rfl (fun _ => by go_simp; first | done | rfl) (by simp only [List.set_cons_zero, List.set_cons_succ]; rfl) ?_)
                    | (with_reducible refine Fx.lab1 ?_
                       refine Fx.look rfl rfl (fun w' hC => by obtain ⟨hc, hf, hl⟩ := Ext.cells hC; go_simp; rfl) (by simp only [List.set_cons_zero, List.set_cons_succ]; rfl) ?_)
                refine Fx.store ⟨db, nd, none⟩ (.int .i64 ((q + 1 : Nat) : Int)) rfl rfl (fun w' hC => by
                  obtain ⟨hc, hf, hl⟩ := Ext.cells hC
                  have e1 := (hc _ nd ld).trans cd
                  have e2 := (hf _ nd ld).trans fd
                  clear hc hf hl
                  go_simp) ?_
                refine Fx.done (fun w9 hC => ?_)
                obtain ⟨wx, x1, x2⟩ := hC
                have HF := Lib.hid ((HRu.out.ext x1).setD Hnlt.out x2)
                have HMf := Lib.hid ((HEu.out.then_ x1).trans HF.out.2 (fun _ _ h => .inr (.inl h)))
                clear x1 x2 cd ld fd b0 b1 b2 b3 b4 bl c0 c1 c2 lb
                go_wp2
                go_ret
                have eB : refB ρ h = true := by rw [Hrng.out, Hres2.out]; rfl
                have e := Hst.out eB
                rw [if_neg Hqq.out] at e
                refine ⟨by rw [eB]; rfl, _, _, ?_, HMf.out, fun y hy => .inl hy, fun y hy => .inl hy⟩
                rw [e]
                exact HF.out.1
          · have q1 : (h.k == 2) = false := by simp [hk2]
            have q2 : (h.k == 1) = false := by simp [hk1]
            have q3 : (h.k != 3) = true := by simp [hk3]
            have hz : refR ρ h = false := by unfold refR; rw [if_neg hk2, if_neg hk1, if_neg hk3]
            have Hz := Lib.hid hz
            clear hk1 hk2 hk3 hz hnn hnd
            go_wp2
            go_ret
            exact rhap_no HR1.out HE1.out (by rw [Hrng.out, Hz.out]; rfl)
end Go.Proofs.Ytfnchpjiebojiaa
