/-
  rostrumref11.Follower: Move.
-/
import Derived.Test.YtokljdkeegdniaaRefK
import Derived.Test.YtokljdkeegdniaaEqN
namespace Go.Proofs.Ytokljdkeegdniaa
open Go.RowKit
attribute [local go_sem] Oper.semAt_some

/-- A call's follower, seen from the start of the caller. -/
theorem RfG.call {w W W' : World} {r : Nat} {wv0 bv0 wv bv wv' bv' nv nv' : Value} {σ σ' : FwSt} {l l' : List Ms} (h : RfG w r wv0 bv0 wv bv σ nv l W) (k : RfG W r wv bv wv' bv' σ' nv' l' W') : RfG w r wv0 bv0 wv' bv' σ' nv l W' := by
  have hs := h.m.size
  refine ⟨k.v, h.m.trans k.m (fun x hx e => ?_), h.hr, fun x hx => ?_, fun x hx => ?_, h.n.mods k.m (fun x hx => (h.fn x hx).2), fun x hx => ⟨(h.fn x hx).1, fun e => ?_⟩⟩
  · rcases e with e | e | e
    · exact .inl e
    · exact (h.fw x e).elim (fun e => .inr (.inl e)) (fun e => by omega)
    · exact (h.fb x e).elim (fun e => .inr (.inr e)) (fun e => by omega)
  · exact (k.fw x hx).elim (h.fw x) (fun e => .inr (by omega))
  · exact (k.fb x hx).elim (h.fb x) (fun e => .inr (by omega))
  · have hlt := h.n.lt hx
    rcases e with e | e | e
    · exact (h.fn x hx).2 (.inl e)
    · exact (k.fw x e).elim (fun e => (h.fn x hx).2 (.inr (.inl e))) (fun e => by omega)
    · exact (k.fb x e).elim (fun e => (h.fn x hx).2 (.inr (.inr e))) (fun e => by omega)
/-- A slice of the call's own, apart from the follower and from nv. -/
structure Apart (w : World) (r : Nat) (wv bv nv : Value) (v : Value) (l : List Nb) (W : World) : Prop where
  o : OwnNb W v l
  a : ∀ x, v.ownBlock = some x → w.heap.size ≤ x ∧ ¬ FR r wv bv x ∧ nv.ownBlock ≠ some x
theorem Apart.ext {w W W' : World} {r : Nat} {wv bv nv v : Value} {l : List Nb} (h : Apart w r wv bv nv v l W) (he : Ext W W') : Apart w r wv bv nv v l W' := ⟨h.o.ext he, h.a⟩
theorem Apart.call {w W W' : World} {r : Nat} {wv bv wv' bv' nv v nv' : Value} {l : List Nb} {σ' : FwSt} {l' : List Ms} (h : Apart w r wv bv nv v l W) (k : RfG W r wv bv wv' bv' σ' nv' l' W') : Apart w r wv' bv' nv v l W' := by
  refine ⟨h.o.mods k.m (fun x hx => (h.a x hx).2.1), fun x hx => ⟨(h.a x hx).1, fun e => ?_, (h.a x hx).2.2⟩⟩
  have hlt := h.o.lt hx
  rcases e with e | e | e
  · exact (h.a x hx).2.1 (.inl e)
  · exact (k.fw x e).elim (fun e => (h.a x hx).2.1 (.inr (.inl e))) (fun e => by omega)
  · exact (k.fb x e).elim (fun e => (h.a x hx).2.1 (.inr (.inr e))) (fun e => by omega)
/-- What ref's Move reads of the old buffer stays. -/
theorem RfG.old {w W : World} {r : Nat} {wv bv nv ov : Value} {σ : FwSt} {l : List Ms} {L : List Nb} (h : RfG w r (.slice none 0 0) (.slice none 0 0) wv bv σ nv l W) (ho : OwnNb w ov L) (hr : ∀ x, ov.ownBlock = some x → x ≠ r) : OwnNb W ov L :=
  ho.mods h.m (fun x hx e => by
    rcases e with e | e | e
    · exact hr x hx e
    · simp [Value.ownBlock] at e
    · simp [Value.ownBlock] at e)
theorem RfG.apart {w W W1 : World} {r : Nat} {wv0 bv0 wv bv nv v v' : Value} {σ : FwSt} {l : List Ms} {L L' : List Nb} (h : RfG w r wv0 bv0 wv bv σ nv l W) (ap : Apart w r wv bv nv v L W) (a1 : OwnNb W1 v' L') (a2 : Mods (fun c => v.ownBlock = some c) W W1) (a3 : ∀ c, v'.ownBlock = some c → v.ownBlock = some c ∨ W.heap.size ≤ c) :
    RfG w r wv0 bv0 wv bv σ nv l W1 ∧ Apart w r wv bv nv v' L' W1 := by
  have hs := h.m.size
  refine ⟨⟨h.v.mods a2 (fun x hx e => (ap.a x e).2.1 hx), h.m.trans a2 (fun x hx e => by have := (ap.a x e).1; omega), h.hr, h.fw, h.fb, h.n.mods a2 (fun x hx e => (ap.a x e).2.2 hx), h.fn⟩, ⟨a1, fun x hx => ?_⟩⟩
  rcases a3 x hx with e | e
  · exact ap.a x e
  · exact ⟨by omega, fun hf => by have := h.v.lt hf; omega, fun hn => by have := h.n.lt hn; omega⟩
theorem Apart.putN {w W W1 : World} {r : Nat} {wv bv nv nv' v : Value} {L : List Nb} (ap : Apart w r wv bv nv v L W) (a2 : Mods (fun c => nv.ownBlock = some c) W W1) (a3 : ∀ c, nv'.ownBlock = some c → nv.ownBlock = some c ∨ W.heap.size ≤ c) : Apart w r wv bv nv' v L W1 :=
  ⟨ap.o.mods a2 (fun x hx e => (ap.a x hx).2.2 e), fun x hx => ⟨(ap.a x hx).1, (ap.a x hx).2.1, fun e => (a3 x e).elim (fun e => (ap.a x hx).2.2 e) (fun e => by have := ap.o.lt hx; omega)⟩⟩
theorem RfG.glue {w W W' : World} {r : Nat} {wv0 bv0 wv bv wv' bv' nv : Value} {σ σ' : FwSt} {l : List Ms} (h : RfG w r wv0 bv0 wv bv σ (.slice none 0 0) [] W) (k : RfG W r wv bv wv' bv' σ' nv l W') : RfG w r wv0 bv0 wv' bv' σ' nv l W' :=
  let c := h.call k
  ⟨c.v, c.m, c.hr, c.fw, c.fb, k.n, fun x hx => ⟨Nat.le_trans h.m.size (k.fn x hx).1, (k.fn x hx).2⟩⟩
theorem filter_take {α : Type} (q : α → Bool) (l : List α) (k : Nat) (h : k < l.length) : (l.take (k + 1)).filter q = (l.take k).filter q ++ (if q l[k] then [l[k]] else []) := by
  rw [List.take_succ_eq_append_getElem h, List.filter_append]
  congr 1
  by_cases hq : q l[k] = true
  · simp [hq]
  · simp [hq]
set_option maxRecDepth 100000 in
set_option maxHeartbeats 12800000 in
theorem ref_move {w : World} {r : Nat} {wv bv : Value} {σ : FwSt} (h : RfAt w r wv bv σ) (hbl : σ.bf.length ≤ 64) (t : Int) :
    Calls Try.prog 13 #[.pointer (some ⟨r, 0, none⟩), .int .u32 t] w (RefR w r wv bv (refMvL σ t) (moveE σ t) (refMvS σ t)) := by
  have HG := Lib.hid (RfG.new h)
  have HBl := Lib.hid hbl
  obtain ⟨ep, hep⟩ : ∃ ep, σ.ep = ep := ⟨_, rfl⟩
  have Hep := Lib.hid hep
  obtain ⟨c0, -, -, -, lr⟩ := h.cells
  rw [hep] at c0
  clear h hbl hep
  by_cases ht : t ≤ ep
  · have hd : decide (t ≤ ep) = true := by simpa using ht
    have Ht : Hid (t ≤ σ.ep) := Lib.hid (by rw [Hep.out]; exact ht)
    clear ht
    go_enter Try.func13, Try.ntmps13
    go_wp2
    go_ret2
    unfold refMvL refMvS moveE
    simp only [if_pos Ht.out]
    exact ⟨_, _, _, rfl, HG.out⟩
  have hd : decide (t ≤ ep) = false := by simpa using ht
  have Ht : Hid (¬ t ≤ σ.ep) := Lib.hid (by rw [Hep.out]; exact ht)
  have ho := HG.out.v.b_
  have hor := HG.out.v.br
  obtain ⟨oA, ocap, hbv, -⟩ := ho.val
  rw [List.length_map] at hbv
  obtain ⟨n, hn⟩ : ∃ n, σ.bf.length = n := ⟨_, rfl⟩
  rw [hn] at hbv
  have hn64 : n ≤ 64 := by rw [← hn]; exact HBl.out
  have Hbv := Lib.hid hbv
  have Hn := Lib.hid hn
  obtain ⟨-, c1, c2, c3, -⟩ := HG.out.v.cells
  rw [hbv] at c3
  obtain ⟨wA, wcap, hwv, -⟩ := HG.out.v.w_.val
  rw [hwv] at c2
  have f0 := HG.out.v.o.free 0
  clear ht ho hor hbv hn hwv
  go_enter Try.func13, Try.ntmps13
  go_upto_region 3 with fail
  refine wp_region_line [(0,0),(1,0),(2,0),(3,0),(4,3)] (by kernel_rfl) (by kernel_rfl) (Ext w) (fun _ _ h k => h.trans k) (Ext.refl _) ?_
  iterate 4
    first
      | refine Fx.skip rfl rfl (by simp only [List.set_cons_zero, List.set_cons_succ]; rfl) ?_
      | (with_reducible refine Fx.lab0 ?_
         first
           | refine Fx.moveT rfl rfl rfl (by simp only [List.set_cons_zero, List.set_cons_succ]; rfl) ?_
           | refine Fx.assignT rfl rfl rfl (by simp only [List.set_cons_zero, List.set_cons_succ]; rfl) ?_
           | refine Fx.pure_ rfl rfl (fun _ => by go_simp; first | done | rfl) (by simp only [List.set_cons_zero, List.set_cons_succ]; rfl) ?_)
      | (with_reducible refine Fx.lab1 ?_
         refine Fx.look rfl rfl (fun w' hC => by obtain ⟨hc, hf, hl⟩ := Ext.cells hC; go_simp; rfl) (by simp only [List.set_cons_zero, List.set_cons_succ]; rfl) ?_)
  refine Fx.store ⟨r, 0, none⟩ (.int .u32 t) rfl rfl (fun w' hC => by
    obtain ⟨hc, hf, hl⟩ := hC.cells
    have e1 := (hc r 0 lr).trans c0
    have e2 := (hf r 0 lr).trans f0
    clear hc hf hl hC
    go_simp) ?_
  refine Fx.done (fun wa hC => ?_)
  obtain ⟨wy, g1, g2⟩ := hC
  have HA := Lib.hid ((HG.out.ext g1).setE t g2)
  clear g1 g2 c0 c1 c2 c3 lr f0 hd HG
  obtain ⟨-, c1, -, -, lr⟩ := HA.out.v.cells
  have f1 := HA.out.v.o.free 1
  go_upto_region 4 with fail
  refine wp_region_line [(0,0),(1,0),(2,0),(3,3)] (by kernel_rfl) (by kernel_rfl) (Ext wa) (fun _ _ h k => h.trans k) (Ext.refl _) ?_
  iterate 3
    first
      | refine Fx.skip rfl rfl (by simp only [List.set_cons_zero, List.set_cons_succ]; rfl) ?_
      | (with_reducible refine Fx.lab0 ?_
         first
           | refine Fx.moveT rfl rfl rfl (by simp only [List.set_cons_zero, List.set_cons_succ]; rfl) ?_
           | refine Fx.assignT rfl rfl rfl (by simp only [List.set_cons_zero, List.set_cons_succ]; rfl) ?_
           | refine Fx.pure_ rfl rfl (fun _ => by go_simp; first | done | rfl) (by simp only [List.set_cons_zero, List.set_cons_succ]; rfl) ?_)
      | (with_reducible refine Fx.lab1 ?_
         refine Fx.look rfl rfl (fun w' hC => by obtain ⟨hc, hf, hl⟩ := Ext.cells hC; go_simp; rfl) (by simp only [List.set_cons_zero, List.set_cons_succ]; rfl) ?_)
  refine Fx.store ⟨r, 1, none⟩ (.int .u32 1) rfl rfl (fun w' hC => by
    obtain ⟨hc, hf, hl⟩ := hC.cells
    have e1 := (hc r 1 lr).trans c1
    have e2 := (hf r 1 lr).trans f1
    clear hc hf hl hC
    go_simp) ?_
  refine Fx.done (fun wb hC => ?_)
  obtain ⟨wy, g1, g2⟩ := hC
  have HB := Lib.hid ((HA.out.ext g1).setN 1 g2)
  clear g1 g2 c1 lr f1 HA
  obtain ⟨-, -, c2, -, lr⟩ := HB.out.v.cells
  have f2 := HB.out.v.o.free 2
  obtain ⟨wA', wcap', hwv', -⟩ := HB.out.v.w_.val
  rw [hwv'] at c2
  go_upto_region 5 with fail
  refine wp_region_line [(0,0),(1,0),(2,0),(3,3)] (by kernel_rfl) (by kernel_rfl) (Ext wb) (fun _ _ h k => h.trans k) (Ext.refl _) ?_
  iterate 3
    first
      | refine Fx.skip rfl rfl (by simp only [List.set_cons_zero, List.set_cons_succ]; rfl) ?_
      | (with_reducible refine Fx.lab0 ?_
         first
           | refine Fx.moveT rfl rfl rfl (by simp only [List.set_cons_zero, List.set_cons_succ]; rfl) ?_
           | refine Fx.assignT rfl rfl rfl (by simp only [List.set_cons_zero, List.set_cons_succ]; rfl) ?_
           | refine Fx.pure_ rfl rfl (fun _ => by go_simp; first | done | rfl) (by simp only [List.set_cons_zero, List.set_cons_succ]; rfl) ?_)
      | (with_reducible refine Fx.lab1 ?_
         refine Fx.look rfl rfl (fun w' hC => by obtain ⟨hc, hf, hl⟩ := Ext.cells hC; go_simp; rfl) (by simp only [List.set_cons_zero, List.set_cons_succ]; rfl) ?_)
  refine Fx.store ⟨r, 2, none⟩ (.slice none 0 0) rfl rfl (fun w' hC => by
    obtain ⟨hc, hf, hl⟩ := hC.cells
    have e1 := (hc r 2 lr).trans c2
    have e2 := (hf r 2 lr).trans f2
    clear hc hf hl hC
    go_simp) ?_
  refine Fx.done (fun wc hC => ?_)
  obtain ⟨wy, g1, g2⟩ := hC
  have HC := Lib.hid ((HB.out.ext g1).setW (wv' := .slice none 0 0) (kv := []) Own.nil (Mods.refl _ _) (fun c hc => by simp [Value.ownBlock] at hc) g2)
  clear g1 g2 c2 lr f2 HB hwv'
  obtain ⟨-, -, -, c3, lr⟩ := HC.out.v.cells
  have f3 := HC.out.v.o.free 3
  rw [Hbv.out] at c3
  go_upto_region 7 with fail
  refine wp_region_line [(0,0),(1,0),(2,0),(3,3)] (by kernel_rfl) (by kernel_rfl) (Ext wc) (fun _ _ h k => h.trans k) (Ext.refl _) ?_
  iterate 3
    first
      | refine Fx.skip rfl rfl (by simp only [List.set_cons_zero, List.set_cons_succ]; rfl) ?_
      | (with_reducible refine Fx.lab0 ?_
         first
           | refine Fx.moveT rfl rfl rfl (by simp only [List.set_cons_zero, List.set_cons_succ]; rfl) ?_
           | refine Fx.assignT rfl rfl rfl (by simp only [List.set_cons_zero, List.set_cons_succ]; rfl) ?_
           | refine Fx.pure_ rfl rfl (fun _ => by go_simp; first | done | rfl) (by simp only [List.set_cons_zero, List.set_cons_succ]; rfl) ?_)
      | (with_reducible refine Fx.lab1 ?_
         refine Fx.look rfl rfl (fun w' hC => by obtain ⟨hc, hf, hl⟩ := Ext.cells hC; go_simp; rfl) (by simp only [List.set_cons_zero, List.set_cons_succ]; rfl) ?_)
  refine Fx.store ⟨r, 3, none⟩ (.slice none 0 0) rfl rfl (fun w' hC => by
    obtain ⟨hc, hf, hl⟩ := hC.cells
    have e1 := (hc r 3 lr).trans c3
    have e2 := (hf r 3 lr).trans f3
    clear hc hf hl hC
    go_simp) ?_
  refine Fx.done (fun w1 hC => ?_)
  obtain ⟨wy, g1, g2⟩ := hC
  have hD := (HC.out.ext g1).setB (bv' := .slice none 0 0) (kv := []) Own.nil (Mods.refl _ _) (fun c hc => by simp [Value.ownBlock] at hc) g2
  have HD : Hid (RfG w r wv bv (.slice none 0 0) (.slice none 0 0) ⟨t, 1, [], []⟩ (.slice none 0 0) [] w1) := Lib.hid hD
  have hold : OwnNb w1 (.slice oA n ocap) (σ.bf.map nbOf) ∧ ∀ x, Value.ownBlock (.slice oA n ocap) = some x → x ≠ r := by
    have h1 := HC.out.v.b_
    have h2 := HC.out.v.br
    rw [Hbv.out] at h1 h2
    have m : Mods (· = r) wc w1 := (g1.mods _).trans ((Mods.setCell wy r 3 _).then_ g2) (fun _ _ h => h)
    exact ⟨h1.mods m (fun x hx e => h2 x hx e), h2⟩
  have HOld := Lib.hid hold
  have HS : Hid (RfG w1 r (.slice none 0 0) (.slice none 0 0) (.slice none 0 0) (.slice none 0 0) ⟨t, 1, [], []⟩ (.slice none 0 0) [] w1) := Lib.hid (RfG.new hD.v)
  clear g1 g2 c3 lr f3 HC hD hold
  go_wp2
  go_loopw [7, 8] (fun v7 q wr => ∃ (k : Nat) (nowv bv' : Value), nowv = v7 ∧ q = .int .i64 k ∧ k ≤ n ∧ Hid (RfG w1 r (.slice none 0 0) (.slice none 0 0) (.slice none 0 0) bv' ⟨t, 1, [], (σ.bf.take k).filter (fun p => decide (t < p.1.1))⟩ (.slice none 0 0) [] wr) ∧ Hid (Apart w1 r (.slice none 0 0) bv' (.slice none 0 0) nowv (nowB t (σ.bf.take k)) wr)) (fun _ q _ => n - (intOf q).toNat)
  case atStart => exact ⟨0, _, _, rfl, rfl, Nat.zero_le _, by simpa using HS, Lib.hid ⟨Own.nil, fun x hx => by simp [Value.ownBlock] at hx⟩⟩
  case round =>
    clear HS
    obtain ⟨k, nowv, bv', rfl, rfl, hk, hG, hN⟩ := hrel
    by_cases hlt : k < n
    · have hdk : decide ((k : Int) < (n : Int)) = true := by apply decide_eq_true; omega
      have hwk : IntKind.i64.wrap ((k : Int) + 1) = (k : Int) + 1 := IntWalk.i64_in _ ⟨by omega, by omega⟩
      have hltn : k < σ.bf.length := by rw [Hn.out]; exact hlt
      obtain ⟨p, hp⟩ : ∃ p, σ.bf[k] = p := ⟨_, rfl⟩
      have hfil := filter_take (fun p : (Int × Int) × Ms => decide (t < p.1.1)) σ.bf k hltn
      rw [hp] at hfil
      have hnow : nowB t (σ.bf.take (k + 1)) = nowB t (σ.bf.take k) ++ (if decide (p.1.1 = t) then [nbOf p] else []) := by
        unfold nowB
        rw [filter_take _ σ.bf k hltn, hp, List.map_append]
        congr 1
        split <;> rfl
      have hpk : σ.bf[k]? = some p := by rw [List.getElem?_eq_getElem hltn, hp]
      have Hpk := Lib.hid hpk
      have hold : ∀ W, Ext wr W → ∃ b off, oA = some ⟨b, off, none⟩ ∧ b < W.heap.size ∧ NbCells W b (off + k * 5) (nbOf p) := fun W hW =>
        ky_wt_addr (k := p.1) (m := p.2) (((hG.out.old HOld.out.1 HOld.out.2).ext hW).sl Nb.len) hpk
      have HFil := Lib.hid hfil
      have HNow := Lib.hid hnow
      have Hold := Lib.hid hold
      obtain ⟨jb, joff, rfl, jl, jc⟩ := hold wr (Ext.refl _)
      have j0 := jc.c0
      obtain ⟨pe, hpe⟩ : ∃ pe, p.1.1 = pe := ⟨_, rfl⟩
      have Hpe := Lib.hid hpe
      replace j0 : wr.cell? ⟨jb, joff + k * 5, none⟩ = some (.int .u32 pe) := by rw [← hpe]; exact j0
      obtain ⟨bA, bcap, hbv', -⟩ := hG.out.v.b_.val
      obtain ⟨q1, hq1⟩ : ∃ q, decide (t < pe) = q := ⟨_, rfl⟩
      have Hq1 := Lib.hid hq1
      have hx2 : ∃ q2, (pe == t) = q2 ∧ decide (p.1.1 = t) = q2 := ⟨_, rfl, by rw [hpe]; by_cases h : pe = t <;> simp [h]⟩
      obtain ⟨q2, hq2, hq2'⟩ := hx2
      have Hq2 := Lib.hid hq2
      have Hq2' := Lib.hid hq2'
      have HLen : Hid ((σ.bf.take k).length ≤ 64) := Lib.hid (by rw [List.length_take]; have := HBl.out; omega)
      clear hp hpk hfil hnow hold jc hpe hbv' hq2' hltn
      cases q1 with
      | true =>
        have hx : q2 = false := by
          have h1 := of_decide_eq_true Hq1.out
          rw [← Hq2.out]; simp; omega
        subst hx
        go_upto_region 13 with fail
        clear j0 jl hq1
        obtain ⟨-, -, -, c3, lr⟩ := hG.out.v.cells
        have f3 := hG.out.v.o.free 3
        obtain ⟨bA, bn, bcap, hbv'⟩ : ∃ A n c, bv' = .slice A n c := by obtain ⟨A, cap, e, -⟩ := hG.out.v.b_.val; exact ⟨_, _, _, e⟩
        have Hbv' := Lib.hid hbv'
        rw [hbv'] at c3
        obtain ⟨jb', joff', e', jl, jc⟩ := Hold.out wr (Ext.refl _)
        simp only [Option.some.injEq, Addr.mk.injEq, and_true] at e'
        obtain ⟨rfl, rfl⟩ := e'
        refine wp_region_plan [(0,0),(1,0),(2,0),(3,0),(4,1),(5,0),(6,0),(7,0),(8,1),(9,2),(10,3),(11,0),(12,0),(13,3)] (by kernel_rfl) (by kernel_rfl) (by kernel_rfl) (Ext wr) (fun _ _ h k => h.trans k) (Ext.drawn _ _) ?_
        iterate 8
          first
            | refine Fx.skip rfl rfl (by simp only [List.set_cons_zero, List.set_cons_succ]; rfl) ?_
            | (with_reducible refine Fx.lab0 ?_
               first
                 | refine Fx.moveT rfl rfl rfl (by simp only [List.set_cons_zero, List.set_cons_succ]; rfl) ?_
                 | refine Fx.assignT rfl rfl rfl (by simp only [List.set_cons_zero, List.set_cons_succ]; rfl) ?_
                 | refine Fx.pure_ rfl rfl (fun _ => by go_simp; first | done | rfl) (by simp only [List.set_cons_zero, List.set_cons_succ]; rfl) ?_)
            | (with_reducible refine Fx.lab1 ?_
               refine Fx.look rfl rfl (fun w' hC => by obtain ⟨hc, hf, hl⟩ := Ext.cells hC; go_simp; rfl) (by simp only [List.set_cons_zero, List.set_cons_succ]; rfl) ?_)
        refine Fx.look rfl rfl (op_load_Nb' (m := nbOf p) jl jc rfl) (by simp only [List.set_cons_zero, List.set_cons_succ]; rfl) ?_
        refine Fx.mkSl 1 1 (fun B w' => wr.heap.size ≤ B ∧ NbL w' (.slice (some ⟨B, 0, none⟩) 1 1) [nbOf p]) (fun B _ _ h k => ⟨h.1, h.2.ext k⟩) rfl rfl (fun w' hC => stepAt_lit1N hC (nbOf p) rfl) (fun B2 => ?_)
        simp only [List.set_cons_zero, List.set_cons_succ]
        refine Fx.eff (fun v' w' => OwnNb w' v' (((σ.bf.take k).filter (fun p => decide (t < p.1.1))).map nbOf ++ [nbOf p]) ∧ Mods (fun c => bv'.ownBlock = some c) wr w' ∧ (∀ c, v'.ownBlock = some c → bv'.ownBlock = some c ∨ wr.heap.size ≤ c)) (fun v _ _ h k => ⟨h.1.ext k, h.2.1.then_ k, h.2.2⟩) rfl rfl
          (fun w' hC => stepAt_appendN hC.1 (hG.out.v.b_.ext hC.1) hC.2.2 (by rw [List.length_map]; have h1 := HLen.out; have h2 := List.length_filter_le (fun p : (Int × Int) × Ms => decide (t < p.1.1)) (σ.bf.take k); show List.length _ + 1 ≤ _; omega) (by rw [Hbv'.out]; rfl) rfl) (fun v3 => ?_)
        simp only [List.set_cons_zero, List.set_cons_succ]
        iterate 2
          first
            | refine Fx.skip rfl rfl (by simp only [List.set_cons_zero, List.set_cons_succ]; rfl) ?_
            | (with_reducible refine Fx.lab0 ?_
               first
                 | refine Fx.moveT rfl rfl rfl (by simp only [List.set_cons_zero, List.set_cons_succ]; rfl) ?_
                 | refine Fx.assignT rfl rfl rfl (by simp only [List.set_cons_zero, List.set_cons_succ]; rfl) ?_
                 | refine Fx.pure_ rfl rfl (fun _ => by go_simp; first | done | rfl) (by simp only [List.set_cons_zero, List.set_cons_succ]; rfl) ?_)
            | (with_reducible refine Fx.lab1 ?_
               refine Fx.look rfl rfl (fun w' hC => by obtain ⟨hc, hf, hl⟩ := Ext.cells hC; go_simp; rfl) (by simp only [List.set_cons_zero, List.set_cons_succ]; rfl) ?_)
        refine Fx.store ⟨r, 3, none⟩ v3 rfl rfl (fun w' hC => by
          obtain ⟨hc, hf, hl⟩ := hC.2.1.cells
          have hne : ¬ bv'.ownBlock = some r := fun h => hG.out.v.br r h rfl
          have e1 := (hc r 3 lr hne).trans c3
          have e2 := (hf r 3 lr hne).trans f3
          obtain ⟨A3, n3, c3', rfl⟩ : ∃ A n cap, v3 = .slice A n cap := by obtain ⟨A, cap, e, _⟩ := hC.1.val; exact ⟨_, _, _, e⟩
          clear hc hf hl hC
          go_simp) ?_
        refine Fx.done (fun wz hC => ?_)
        obtain ⟨wy, ⟨g1, g2, g3⟩, g4⟩ := hC
        have HG2 : Hid (RfG w1 r (.slice none 0 0) (.slice none 0 0) (.slice none 0 0) v3 ⟨t, 1, [], (σ.bf.take (k + 1)).filter (fun p => decide (t < p.1.1))⟩ (.slice none 0 0) [] wz) := by
          refine Lib.hid (hG.out.setB ?_ g2 g3 g4)
          rw [HFil.out, List.map_append]
          have : decide (t < p.1.1) = true := by rw [Hpe.out]; exact Hq1.out
          rw [this]; exact g1
        have HN2 : Hid (Apart w1 r (.slice none 0 0) v3 (.slice none 0 0) nowv (nowB t (σ.bf.take (k + 1))) wz) := by
          rw [HNow.out, Hq2'.out]
          simp only [Bool.false_eq_true, if_false, List.append_nil]
          have m : Mods (fun x => bv'.ownBlock = some x ∨ x = r) wr wz := (g2.mono (T := fun x => bv'.ownBlock = some x ∨ x = r) (fun x _ h => .inl h)).trans ((Mods.setCell wy r 3 _).then_ g4) (fun x _ h => .inr h)
          refine Lib.hid ⟨hN.out.o.mods m (fun x hx e => (hN.out.a x hx).2.1 (e.elim (fun e => .inr (.inr e)) .inl)), fun x hx => ⟨(hN.out.a x hx).1, fun e => ?_, (hN.out.a x hx).2.2⟩⟩
          rcases e with e | e | e
          · exact (hN.out.a x hx).2.1 (.inl e)
          · exact (hN.out.a x hx).2.1 (.inr (.inl e))
          · rcases g3 x e with e | e
            · exact (hN.out.a x hx).2.1 (.inr (.inr e))
            · have := hN.out.o.lt hx; omega
        clear g1 g2 g3 g4 c3 lr f3 jl jc hG hN
        obtain ⟨jb', joff', e', jl, jc⟩ := ky_wt_addr (k := p.1) (m := p.2) ((HG2.out.old HOld.out.1 HOld.out.2).sl Nb.len) Hpk.out
        simp only [Option.some.injEq, Addr.mk.injEq, and_true] at e'
        obtain ⟨rfl, rfl⟩ := e'
        have j0 := jc.c0
        replace j0 : wz.cell? ⟨jb, joff + k * 5, none⟩ = some (.int .u32 pe) := by rw [← Hpe.out]; exact j0
        clear jc
        go_wp2
        go_roundw
        case rel => exact ⟨k + 1, nowv, v3, rfl, by go_num, by omega, HG2, HN2⟩
        case measure => simp [intOf]; omega
      | false =>
        have HFil2 : Hid ((σ.bf.take (k + 1)).filter (fun p => decide (t < p.1.1)) = (σ.bf.take k).filter (fun p => decide (t < p.1.1))) := Lib.hid (by
          rw [HFil.out]
          have : decide (t < p.1.1) = false := by rw [Hpe.out]; exact Hq1.out
          rw [this]; simp)
        cases q2 with
        | false =>
          go_wp2
          go_roundw
          case rel => exact ⟨k + 1, nowv, bv', rfl, by go_num, by omega, by rw [HFil2.out]; exact hG, by rw [HNow.out, Hq2'.out]; simpa using hN⟩
          case measure => simp [intOf]; omega
        | true =>
          go_upto_region 15 with fail
          clear j0 jl hq1 hq2
          obtain ⟨jb', joff', e', jl, jc⟩ := Hold.out wr (Ext.refl _)
          simp only [Option.some.injEq, Addr.mk.injEq, and_true] at e'
          obtain ⟨rfl, rfl⟩ := e'
          refine wp_region_line [(0,0),(1,0),(2,0),(3,0),(4,1),(5,2),(6,3),(7,0)] (by kernel_rfl) (by kernel_rfl) (Ext wr) (fun _ _ h k => h.trans k) (Ext.refl _) ?_
          iterate 4
            first
              | refine Fx.skip rfl rfl (by simp only [List.set_cons_zero, List.set_cons_succ]; rfl) ?_
              | (with_reducible refine Fx.lab0 ?_
                 first
                   | refine Fx.moveT rfl rfl rfl (by simp only [List.set_cons_zero, List.set_cons_succ]; rfl) ?_
                   | refine Fx.assignT rfl rfl rfl (by simp only [List.set_cons_zero, List.set_cons_succ]; rfl) ?_
                   | refine Fx.pure_ rfl rfl (fun _ => by go_simp; first | done | rfl) (by simp only [List.set_cons_zero, List.set_cons_succ]; rfl) ?_)
              | (with_reducible refine Fx.lab1 ?_
                 refine Fx.look rfl rfl (fun w' hC => by obtain ⟨hc, hf, hl⟩ := Ext.cells hC; go_simp; rfl) (by simp only [List.set_cons_zero, List.set_cons_succ]; rfl) ?_)
          refine Fx.look rfl rfl (op_load_Nb' (m := nbOf p) jl jc rfl) (by simp only [List.set_cons_zero, List.set_cons_succ]; rfl) ?_
          refine Fx.mkSl 1 1 (fun B w' => wr.heap.size ≤ B ∧ NbL w' (.slice (some ⟨B, 0, none⟩) 1 1) [nbOf p]) (fun B _ _ h k => ⟨h.1, h.2.ext k⟩) rfl rfl (fun w' hC => stepAt_lit1N hC (nbOf p) rfl) (fun B2 => ?_)
          simp only [List.set_cons_zero, List.set_cons_succ]
          refine Fx.eff (fun v' w' => RfG w1 r (.slice none 0 0) (.slice none 0 0) (.slice none 0 0) bv' ⟨t, 1, [], (σ.bf.take k).filter (fun p => decide (t < p.1.1))⟩ (.slice none 0 0) [] w' ∧ Apart w1 r (.slice none 0 0) bv' (.slice none 0 0) v' (nowB t (σ.bf.take k) ++ [nbOf p]) w') (fun v _ _ h k => ⟨h.1.ext k, h.2.ext k⟩) rfl rfl
            (fun w' hC => stepAt_mono (stepAt_appendN (Ext.refl w') (hN.out.o.ext hC.1) hC.2.2 (by have h1 := HLen.out; have h2 := nowB_len t (σ.bf.take k); show List.length _ + 1 ≤ _; omega) rfl rfl) (fun v' w'' hh => (hG.out.ext hC.1).apart (hN.out.ext hC.1) hh.1 hh.2.1 hh.2.2)) (fun v3 => ?_)
          simp only [List.set_cons_zero, List.set_cons_succ]
          first
            | refine Fx.skip rfl rfl (by simp only [List.set_cons_zero, List.set_cons_succ]; rfl) ?_
            | (with_reducible refine Fx.lab0 ?_
               first
                 | refine Fx.moveT rfl rfl rfl (by simp only [List.set_cons_zero, List.set_cons_succ]; rfl) ?_
                 | refine Fx.assignT rfl rfl rfl (by simp only [List.set_cons_zero, List.set_cons_succ]; rfl) ?_
                 | refine Fx.pure_ rfl rfl (fun _ => by go_simp; first | done | rfl) (by simp only [List.set_cons_zero, List.set_cons_succ]; rfl) ?_)
            | (with_reducible refine Fx.lab1 ?_
               refine Fx.look rfl rfl (fun w' hC => by obtain ⟨hc, hf, hl⟩ := Ext.cells hC; go_simp; rfl) (by simp only [List.set_cons_zero, List.set_cons_succ]; rfl) ?_)
          refine Fx.done (fun wz hC => ?_)
          have HG2 := Lib.hid hC.1
          have HN2 := Lib.hid hC.2
          clear hC jl jc hG hN
          go_wp2
          go_roundw
          case rel => exact ⟨k + 1, v3, bv', rfl, by go_num, by omega, by rw [HFil2.out]; exact HG2, by rw [HNow.out, Hq2'.out]; simpa using HN2⟩
          case measure => simp [intOf]; omega
    · have hkn : k = n := by omega
      have hdk : decide ((k : Int) < (n : Int)) = false := by apply decide_eq_false; omega
      have htk : σ.bf.take k = σ.bf := by rw [hkn, ← Hn.out, List.take_length]
      rw [htk] at hG hN
      obtain ⟨N, hNN⟩ : ∃ N, nowB t σ.bf = N := ⟨_, rfl⟩
      rw [hNN] at hN
      obtain ⟨N0, hN0⟩ : ∃ N0, N.length = N0 := ⟨_, rfl⟩
      have HNN := Lib.hid hNN
      have HN0 := Lib.hid hN0
      have hN64 : N0 ≤ 64 := by rw [← hN0, ← hNN]; exact Nat.le_trans (nowB_len _ _) HBl.out
      obtain ⟨nA, ncap, hnv, -⟩ := hN.out.o.val
      rw [hN0] at hnv
      subst hnv
      have HMv : Hid (∀ i, i ≤ N0 → (refRS (mvS σ t) (N.take i)).wt.length ≤ 9999 ∧ (refRS (mvS σ t) (N.take i)).bf.length ≤ 9999 ∧ (refRL (mvS σ t) (N.take i)).length ≤ 9999) := Lib.hid (fun i hi => by
        have h1 := refRS_len (N.take i) (mvS σ t)
        have h2 := refRL_len (N.take i) (mvS σ t)
        have e0 : (mvS σ t).wt.length = 0 := rfl
        have e1 : (mvS σ t).bf.length ≤ 64 := Nat.le_trans (List.length_filter_le _ _) HBl.out
        have e2 : (N.take i).length ≤ 64 := by rw [List.length_take]; omega
        rw [e0, Nat.zero_add] at h2
        have h3 : (N.take i).length * (N.take i).length ≤ 64 * 64 := Nat.mul_le_mul e2 e2
        omega)
      clear htk hNN hN0 hkn
      go_wp2
      generalize wr = wA at *
      go_loopw [9, 10] (fun v9 q wr => ∃ (i : Nat) (outv wv' bv2 : Value), outv = v9 ∧ q = .int .i64 i ∧ i ≤ N0 ∧ Hid (RfG w1 r (.slice none 0 0) (.slice none 0 0) wv' bv2 (refRS (mvS σ t) (N.take i)) outv (refRL (mvS σ t) (N.take i)) wr) ∧ Hid (Apart w1 r wv' bv2 outv (.slice nA N0 ncap) N wr)) (fun _ q _ => N0 - (intOf q).toNat)
      case atStart => exact ⟨0, _, _, _, rfl, rfl, Nat.zero_le _, hG, hN⟩
      case round =>
        clear hG hN
        obtain ⟨i, outv, wv', bv2, rfl, rfl, hi, hG, hN⟩ := hrel
        by_cases hil : i < N0
        · have hdi : decide ((i : Int) < (N0 : Int)) = true := by apply decide_eq_true; omega
          have hwi : IntKind.i64.wrap ((i : Int) + 1) = (i : Int) + 1 := IntWalk.i64_in _ ⟨by omega, by omega⟩
          have hiN : i < N.length := by rw [HN0.out]; exact hil
          obtain ⟨jb, joff, rfl, jl, jc⟩ := Sl.atN (hN.out.o.sl Nb.len) hiN
          obtain ⟨x, hx⟩ : ∃ x, N[i] = x := ⟨_, rfl⟩
          rw [hx] at jc
          have htk : N.take (i + 1) = N.take i ++ [x] := by rw [List.take_succ_eq_append_getElem hiN, hx]
          have hS : refRS (mvS σ t) (N.take (i + 1)) = refS (refRS (mvS σ t) (N.take i)) x := by rw [htk, refRS_snoc]
          have hL : refRL (mvS σ t) (N.take (i + 1)) = refRL (mvS σ t) (N.take i) ++ refL (refRS (mvS σ t) (N.take i)) x := by rw [htk, refRL_snoc]
          obtain ⟨b1, b2, b3⟩ := HMv.out i (by omega)
          obtain ⟨-, -, b4⟩ := HMv.out (i + 1) (by omega)
          rw [hL, List.length_append] at b4
          obtain ⟨ρ, hρ⟩ : ∃ ρ, refRS (mvS σ t) (N.take i) = ρ := ⟨_, rfl⟩
          rw [hρ] at hS hL hG b1 b2 b4
          obtain ⟨E, hE⟩ : ∃ E, recvE ρ x = E := ⟨_, rfl⟩
          obtain ⟨xl, hxl⟩ : ∃ xl, (refL ρ x).length = xl := ⟨_, rfl⟩
          have HSs := Lib.hid hS
          have HLl := Lib.hid hL
          have HE := Lib.hid hE
          have Hxl := Lib.hid hxl
          have HB := Lib.hid (And.intro (show ρ.wt.length ≤ 99999 by omega) (show ρ.bf.length ≤ 99999 by omega))
          have HAl : Hid ((refRL (mvS σ t) (N.take i)).length + (refL ρ x).length ≤ 1073741824) := Lib.hid (by omega)
          clear hx htk hS hL b1 b2 b3 b4 hρ hE hxl hiN
          go_upto_region 20 with fail
          refine wp_region_line [(0,0),(1,0),(2,0),(3,0),(4,1),(5,3),(6,0),(7,0),(8,0),(9,0),(10,0)] (by kernel_rfl) (by kernel_rfl) (Ext wr) (fun _ _ h k => h.trans k) (Ext.refl _) ?_
          iterate 4
            first
              | refine Fx.skip rfl rfl (by simp only [List.set_cons_zero, List.set_cons_succ]; rfl) ?_
              | (with_reducible refine Fx.lab0 ?_
                 first
                   | refine Fx.moveT rfl rfl rfl (by simp only [List.set_cons_zero, List.set_cons_succ]; rfl) ?_
                   | refine Fx.assignT rfl rfl rfl (by simp only [List.set_cons_zero, List.set_cons_succ]; rfl) ?_
                   | refine Fx.pure_ rfl rfl (fun _ => by go_simp; first | done | rfl) (by simp only [List.set_cons_zero, List.set_cons_succ]; rfl) ?_)
              | (with_reducible refine Fx.lab1 ?_
                 refine Fx.look rfl rfl (fun w' hC => by obtain ⟨hc, hf, hl⟩ := Ext.cells hC; go_simp; rfl) (by simp only [List.set_cons_zero, List.set_cons_succ]; rfl) ?_)
          refine Fx.look rfl rfl (op_load_Nb' (m := x) jl jc rfl) (by simp only [List.set_cons_zero, List.set_cons_succ]; rfl) ?_
          refine Fx.effBy (β := (Option Addr × Nat) × (Value × Value)) (fun p => .tuple #[.slice p.1.1 xl p.1.2, .int .i64 E]) (fun p w' => RfG w1 r (.slice none 0 0) (.slice none 0 0) p.2.1 p.2.2 (refS ρ x) outv (refRL (mvS σ t) (N.take i)) w' ∧ Apart w1 r p.2.1 p.2.2 outv (.slice (some ⟨jb, joff, none⟩) N0 ncap) N w' ∧ MsL w' (.slice p.1.1 xl p.1.2) (refL ρ x)) ⟨((none, 0), (undef, undef))⟩ (fun _ _ _ h k => ⟨h.1.ext k, h.2.1.ext k, h.2.2.ext k⟩) rfl rfl (fun w' hC => ?_) (fun p => ?_)
          · unfold stepAt
            rw [show (execOp _ _).run Try.prog w' = .ok (.enter 15 #[.pointer (some ⟨r, 0, none⟩), x.val]) w' from by first | (go_simp; done) | (go_simp; rfl)]
            refine (ref_recv (hG.out.v.ext hC) HB.out.1 HB.out.2 x).mono (fun e w'' hh => ?_)
            obtain ⟨nv, wv2, bv3, rfl, hk⟩ := hh
            rw [HE.out]
            have h1 := hk.n
            obtain ⟨A, cap, rfl, -⟩ := h1.val
            have h5 := h1.sl Ms.len
            rw [Hxl.out] at h5 hk ⊢
            exact ⟨_, rfl, ((A, cap), (wv2, bv3)), rfl, (hG.out.ext hC).call hk, (hN.out.ext hC).call hk, h5⟩
          simp only [List.set_cons_zero, List.set_cons_succ]
          iterate 5
            first
              | refine Fx.skip rfl rfl (by simp only [List.set_cons_zero, List.set_cons_succ]; rfl) ?_
              | (with_reducible refine Fx.lab0 ?_
                 first
                   | refine Fx.moveT rfl rfl rfl (by simp only [List.set_cons_zero, List.set_cons_succ]; rfl) ?_
                   | refine Fx.assignT rfl rfl rfl (by simp only [List.set_cons_zero, List.set_cons_succ]; rfl) ?_
                   | refine Fx.pure_ rfl rfl (fun _ => by go_simp; first | done | rfl) (by simp only [List.set_cons_zero, List.set_cons_succ]; rfl) ?_)
              | (with_reducible refine Fx.lab1 ?_
                 refine Fx.look rfl rfl (fun w' hC => by obtain ⟨hc, hf, hl⟩ := Ext.cells hC; go_simp; rfl) (by simp only [List.set_cons_zero, List.set_cons_succ]; rfl) ?_)
          refine Fx.done (fun w9 hC => ?_)
          have HC9 := Lib.hid hC
          clear hC jc jl hG hN
          go_upto_region 21 with fail
          refine wp_region_line [(0,0),(1,0),(2,3),(3,0)] (by kernel_rfl) (by kernel_rfl) (Ext w9) (fun _ _ h k => h.trans k) (Ext.refl _) ?_
          iterate 2
            first
              | refine Fx.skip rfl rfl (by simp only [List.set_cons_zero, List.set_cons_succ]; rfl) ?_
              | (with_reducible refine Fx.lab0 ?_
                 first
                   | refine Fx.moveT rfl rfl rfl (by simp only [List.set_cons_zero, List.set_cons_succ]; rfl) ?_
                   | refine Fx.assignT rfl rfl rfl (by simp only [List.set_cons_zero, List.set_cons_succ]; rfl) ?_
                   | refine Fx.pure_ rfl rfl (fun _ => by go_simp; first | done | rfl) (by simp only [List.set_cons_zero, List.set_cons_succ]; rfl) ?_)
              | (with_reducible refine Fx.lab1 ?_
                 refine Fx.look rfl rfl (fun w' hC => by obtain ⟨hc, hf, hl⟩ := Ext.cells hC; go_simp; rfl) (by simp only [List.set_cons_zero, List.set_cons_succ]; rfl) ?_)
          refine Fx.eff (fun v' w' => RfG w1 r (.slice none 0 0) (.slice none 0 0) p.2.1 p.2.2 (refRS (mvS σ t) (N.take (i + 1))) v' (refRL (mvS σ t) (N.take (i + 1))) w' ∧ Apart w1 r p.2.1 p.2.2 v' (.slice (some ⟨jb, joff, none⟩) N0 ncap) N w') (fun v _ _ h k => ⟨h.1.ext k, h.2.ext k⟩) rfl rfl
            (fun w' hC => stepAt_mono (stepAt_append (Ext.refl w') (HC9.out.1.n.ext hC) (HC9.out.2.2.ext hC) HAl.out rfl rfl) (fun v' w'' hh => ⟨by rw [HSs.out, HLl.out]; exact (HC9.out.1.ext hC).putN hh.1 hh.2.1 hh.2.2, (HC9.out.2.1.ext hC).putN hh.2.1 hh.2.2⟩)) (fun outv' => ?_)
          simp only [List.set_cons_zero, List.set_cons_succ]
          first
            | refine Fx.skip rfl rfl (by simp only [List.set_cons_zero, List.set_cons_succ]; rfl) ?_
            | (with_reducible refine Fx.lab0 ?_
               first
                 | refine Fx.moveT rfl rfl rfl (by simp only [List.set_cons_zero, List.set_cons_succ]; rfl) ?_
                 | refine Fx.assignT rfl rfl rfl (by simp only [List.set_cons_zero, List.set_cons_succ]; rfl) ?_
                 | refine Fx.pure_ rfl rfl (fun _ => by go_simp; first | done | rfl) (by simp only [List.set_cons_zero, List.set_cons_succ]; rfl) ?_)
            | (with_reducible refine Fx.lab1 ?_
               refine Fx.look rfl rfl (fun w' hC => by obtain ⟨hc, hf, hl⟩ := Ext.cells hC; go_simp; rfl) (by simp only [List.set_cons_zero, List.set_cons_succ]; rfl) ?_)
          refine Fx.done (fun w10 hC => ?_)
          have HC10 := Lib.hid hC
          clear hC HC9
          go_wp2
          go_roundw
          case rel => exact ⟨i + 1, outv', _, _, rfl, by go_num, by omega, Lib.hid HC10.out.1, Lib.hid HC10.out.2⟩
          case measure => simp [intOf]; omega
        · have hdi : decide ((i : Int) < (N0 : Int)) = false := by apply decide_eq_false; omega
          have hiN : N.take i = N := by rw [show i = N.length by rw [HN0.out]; omega, List.take_length]
          rw [hiN] at hG
          go_wp2
          go_ret2
          unfold refMvL refMvS moveE
          simp only [if_neg (show ¬ t ≤ σ.ep by have := Ht.out; omega), HNN.out]
          exact ⟨_, _, _, rfl, HD.out.glue hG.out⟩
end Go.Proofs.Ytokljdkeegdniaa
