/-
  rostrumref11.Follower: its invariant; Receive.
-/
import Derived.Test.YtokljdkeegdniaaRefF
namespace Go.Proofs.Ytokljdkeegdniaa
open Go.RowKit
attribute [local go_sem] Oper.semAt_some

def lenV : Value → Nat | .slice _ n _ => n | _ => 0
def rfF (e n : Int) (wv bv : Value) (i : Nat) : Value := match i with | 0 => .int .u32 e | 1 => .int .u32 n | 2 => wv | _ => bv
structure RfAt (w : World) (r : Nat) (wv bv : Value) (σ : FwSt) : Prop where
  o : Obj_ w r 4 (rfF σ.ep σ.nx wv bv)
  w_ : OwnNb w wv (σ.wt.map nbOf)
  b_ : OwnNb w bv (σ.bf.map nbOf)
  wr : ∀ x, wv.ownBlock = some x → x ≠ r
  br : ∀ x, bv.ownBlock = some x → x ≠ r
  wb : ∀ x, wv.ownBlock = some x → bv.ownBlock ≠ some x
def FR (r : Nat) (wv bv : Value) (x : Nat) : Prop := x = r ∨ wv.ownBlock = some x ∨ bv.ownBlock = some x
theorem RfAt.mods {w w' : World} {r : Nat} {wv bv : Value} {σ : FwSt} {S : Nat → Prop} (h : RfAt w r wv bv σ) (he : Mods S w w') (hS : ∀ x, FR r wv bv x → ¬ S x) : RfAt w' r wv bv σ :=
  ⟨h.o.mods he (hS _ (.inl rfl)), h.w_.mods he (fun x hx => hS _ (.inr (.inl hx))), h.b_.mods he (fun x hx => hS _ (.inr (.inr hx))), h.wr, h.br, h.wb⟩
theorem RfAt.ext {w w' : World} {r : Nat} {wv bv : Value} {σ : FwSt} (h : RfAt w r wv bv σ) (he : Ext w w') : RfAt w' r wv bv σ := ⟨h.o.ext he, h.w_.ext he, h.b_.ext he, h.wr, h.br, h.wb⟩
theorem RfAt.cells {w : World} {r : Nat} {wv bv : Value} {σ : FwSt} (h : RfAt w r wv bv σ) : w.cell? ⟨r, 0, none⟩ = some (.int .u32 σ.ep) ∧ w.cell? ⟨r, 1, none⟩ = some (.int .u32 σ.nx) ∧ w.cell? ⟨r, 2, none⟩ = some wv ∧ w.cell? ⟨r, 3, none⟩ = some bv ∧ r < w.heap.size :=
  ⟨h.o.cell 0 (by decide), h.o.cell 1 (by decide), h.o.cell 2 (by decide), h.o.cell 3 (by decide), h.o.lt⟩
theorem RfAt.lt {w : World} {r : Nat} {wv bv : Value} {σ : FwSt} (h : RfAt w r wv bv σ) {x : Nat} (hx : FR r wv bv x) : x < w.heap.size := by
  rcases hx with rfl | hx | hx
  · exact h.o.lt
  · exact h.w_.lt hx
  · exact h.b_.lt hx
/-- From w on: the follower is σ now, its slices wv and bv; nv, a slice of the call's own, reads l. -/
structure RfG (w : World) (r : Nat) (wv0 bv0 wv bv : Value) (σ : FwSt) (nv : Value) (l : List Ms) (W : World) : Prop where
  v : RfAt W r wv bv σ
  m : Mods (FR r wv0 bv0) w W
  hr : r < w.heap.size
  fw : ∀ x, wv.ownBlock = some x → wv0.ownBlock = some x ∨ w.heap.size ≤ x
  fb : ∀ x, bv.ownBlock = some x → bv0.ownBlock = some x ∨ w.heap.size ≤ x
  n : OwnMs W nv l
  fn : ∀ x, nv.ownBlock = some x → w.heap.size ≤ x ∧ ¬ FR r wv bv x
section
variable {w W W1 W2 : World} {r : Nat} {wv0 bv0 wv bv wv' bv' nv nv' : Value} {σ : FwSt} {l l' : List Ms} {kv : List ((Int × Int) × Ms)}
theorem RfG.new (h : RfAt w r wv bv σ) : RfG w r wv bv wv bv σ (.slice none 0 0) [] w := ⟨h, Mods.refl _ _, h.o.lt, fun _ h => .inl h, fun _ h => .inl h, Own.nil, fun x hx => by simp [Value.ownBlock] at hx⟩
theorem RfG.ext (h : RfG w r wv0 bv0 wv bv σ nv l W) (he : Ext W W1) : RfG w r wv0 bv0 wv bv σ nv l W1 := ⟨h.v.ext he, h.m.then_ he, h.hr, h.fw, h.fb, h.n.ext he, h.fn⟩
theorem RfG.setW (h : RfG w r wv0 bv0 wv bv σ nv l W) (a1 : OwnNb W1 wv' (kv.map nbOf)) (a2 : Mods (fun c => wv.ownBlock = some c) W W1) (a3 : ∀ c, wv'.ownBlock = some c → wv.ownBlock = some c ∨ W.heap.size ≤ c) (st : Ext (W1.setCell ⟨r, 2, none⟩ wv') W2) :
    RfG w r wv0 bv0 wv' bv { σ with wt := kv } nv l W2 := by
  have m1 : Mods (· = r) W1 W2 := (Mods.setCell W1 r 2 wv').then_ st
  have M : Mods (fun x => wv.ownBlock = some x ∨ x = r) W W2 := (a2.mono (T := fun x => wv.ownBlock = some x ∨ x = r) (fun x _ h => .inl h)).trans m1 (fun x _ h => .inr h)
  have hs := h.m.size
  have hr := h.hr
  have hwr : ∀ x, wv'.ownBlock = some x → x ≠ r := fun x hx e => (a3 x hx).elim (fun h1 => h.v.wr x h1 e) (fun h1 => by omega)
  have hwb : ∀ x, wv'.ownBlock = some x → bv.ownBlock ≠ some x := fun x hx e => (a3 x hx).elim (fun h1 => h.v.wb x h1 e) (fun h1 => by have := h.v.b_.lt e; omega)
  refine ⟨⟨?_, a1.mods m1 (fun x hx e => hwr x hx e), h.v.b_.mods M (fun x hx e => e.elim (fun e => h.v.wb x e hx) (h.v.br x hx)), hwr, h.v.br, hwb⟩, ?_, hr, fun x hx => ?_, h.fb, h.n.mods M (fun x hx e => (h.fn x hx).2 (e.elim (fun e => .inr (.inl e)) .inl)), fun x hx => ⟨(h.fn x hx).1, fun e => ?_⟩⟩
  · exact (((h.v.o.mods a2 (fun e => h.v.wr r e rfl)).set (i := 2) (by decide) wv').ext st).congr (fun i hi => by
      match i, hi with
      | 0, _ => rfl
      | 1, _ => rfl
      | 2, _ => rfl
      | 3, _ => rfl)
  · exact h.m.trans M (fun x hx e => e.elim (fun e => (h.fw x e).elim (fun e => .inr (.inl e)) (fun e => by omega)) .inl)
  · rcases a3 x hx with e1 | e1
    · exact h.fw x e1
    · exact .inr (by omega)
  · rcases e with e | e | e
    · exact (h.fn x hx).2 (.inl e)
    · rcases a3 x e with e1 | e1
      · exact (h.fn x hx).2 (.inr (.inl e1))
      · have := h.n.lt hx; omega
    · exact (h.fn x hx).2 (.inr (.inr e))
theorem RfG.setB (h : RfG w r wv0 bv0 wv bv σ nv l W) (a1 : OwnNb W1 bv' (kv.map nbOf)) (a2 : Mods (fun c => bv.ownBlock = some c) W W1) (a3 : ∀ c, bv'.ownBlock = some c → bv.ownBlock = some c ∨ W.heap.size ≤ c) (st : Ext (W1.setCell ⟨r, 3, none⟩ bv') W2) :
    RfG w r wv0 bv0 wv bv' { σ with bf := kv } nv l W2 := by
  have m1 : Mods (· = r) W1 W2 := (Mods.setCell W1 r 3 bv').then_ st
  have M : Mods (fun x => bv.ownBlock = some x ∨ x = r) W W2 := (a2.mono (T := fun x => bv.ownBlock = some x ∨ x = r) (fun x _ h => .inl h)).trans m1 (fun x _ h => .inr h)
  have hs := h.m.size
  have hr := h.hr
  have hbr : ∀ x, bv'.ownBlock = some x → x ≠ r := fun x hx e => (a3 x hx).elim (fun h1 => h.v.br x h1 e) (fun h1 => by omega)
  have hwb : ∀ x, wv.ownBlock = some x → bv'.ownBlock ≠ some x := fun x hx e => (a3 x e).elim (fun h1 => h.v.wb x hx h1) (fun h1 => by have := h.v.w_.lt hx; omega)
  refine ⟨⟨?_, h.v.w_.mods M (fun x hx e => e.elim (fun e => h.v.wb x hx e) (h.v.wr x hx)), a1.mods m1 (fun x hx e => hbr x hx e), h.v.wr, hbr, hwb⟩, ?_, hr, h.fw, fun x hx => ?_, h.n.mods M (fun x hx e => (h.fn x hx).2 (e.elim (fun e => .inr (.inr e)) .inl)), fun x hx => ⟨(h.fn x hx).1, fun e => ?_⟩⟩
  · exact (((h.v.o.mods a2 (fun e => h.v.br r e rfl)).set (i := 3) (by decide) bv').ext st).congr (fun i hi => by
      match i, hi with
      | 0, _ => rfl
      | 1, _ => rfl
      | 2, _ => rfl
      | 3, _ => rfl)
  · exact h.m.trans M (fun x hx e => e.elim (fun e => (h.fb x e).elim (fun e => .inr (.inr e)) (fun e => by omega)) .inl)
  · rcases a3 x hx with e1 | e1
    · exact h.fb x e1
    · exact .inr (by omega)
  · rcases e with e | e | e
    · exact (h.fn x hx).2 (.inl e)
    · exact (h.fn x hx).2 (.inr (.inl e))
    · rcases a3 x e with e1 | e1
      · exact (h.fn x hx).2 (.inr (.inr e1))
      · have := h.n.lt hx; omega
theorem RfG.setN (h : RfG w r wv0 bv0 wv bv σ nv l W) (n : Int) (st : Ext (W.setCell ⟨r, 1, none⟩ (.int .u32 n)) W2) : RfG w r wv0 bv0 wv bv { σ with nx := n } nv l W2 := by
  have m1 : Mods (· = r) W W2 := (Mods.setCell W r 1 _).then_ st
  refine ⟨⟨?_, h.v.w_.mods m1 (fun x hx e => h.v.wr x hx e), h.v.b_.mods m1 (fun x hx e => h.v.br x hx e), h.v.wr, h.v.br, h.v.wb⟩, h.m.trans m1 (fun x _ e => .inl e), h.hr, h.fw, h.fb, h.n.mods m1 (fun x hx e => (h.fn x hx).2 (.inl e)), h.fn⟩
  exact ((h.v.o.set (i := 1) (by decide) _).ext st).congr (fun i hi => by
      match i, hi with
      | 0, _ => rfl
      | 1, _ => rfl
      | 2, _ => rfl
      | 3, _ => rfl)
theorem RfG.setE (h : RfG w r wv0 bv0 wv bv σ nv l W) (n : Int) (st : Ext (W.setCell ⟨r, 0, none⟩ (.int .u32 n)) W2) : RfG w r wv0 bv0 wv bv { σ with ep := n } nv l W2 := by
  have m1 : Mods (· = r) W W2 := (Mods.setCell W r 0 _).then_ st
  refine ⟨⟨?_, h.v.w_.mods m1 (fun x hx e => h.v.wr x hx e), h.v.b_.mods m1 (fun x hx e => h.v.br x hx e), h.v.wr, h.v.br, h.v.wb⟩, h.m.trans m1 (fun x _ e => .inl e), h.hr, h.fw, h.fb, h.n.mods m1 (fun x hx e => (h.fn x hx).2 (.inl e)), h.fn⟩
  exact ((h.v.o.set (i := 0) (by decide) _).ext st).congr (fun i hi => by
      match i, hi with
      | 0, _ => rfl
      | 1, _ => rfl
      | 2, _ => rfl
      | 3, _ => rfl)
theorem RfG.putN (h : RfG w r wv0 bv0 wv bv σ nv l W) (a1 : OwnMs W1 nv' l') (a2 : Mods (fun c => nv.ownBlock = some c) W W1) (a3 : ∀ c, nv'.ownBlock = some c → nv.ownBlock = some c ∨ W.heap.size ≤ c) : RfG w r wv0 bv0 wv bv σ nv' l' W1 := by
  have hs := h.m.size
  refine ⟨h.v.mods a2 (fun x hx e => (h.fn x e).2 hx), h.m.trans a2 (fun x hx e => by have := (h.fn x e).1; omega), h.hr, h.fw, h.fb, a1, fun x hx => ?_⟩
  rcases a3 x hx with e1 | e1
  · exact h.fn x e1
  · exact ⟨by omega, fun e => by have := h.v.lt e; omega⟩
end
/-! ### Receive -/
def refL (σ : FwSt) (x : Nb) : List Ms := if badB x then [] else if x.e = σ.ep then (if newB σ x then drain (putW σ x) else []) else []
def refS (σ : FwSt) (x : Nb) : FwSt := if badB x then σ else if x.e < σ.ep then σ else if σ.ep < x.e then keepS σ x else if newB σ x then take1 σ x else σ
def RefR (w : World) (r : Nat) (wv bv : Value) (l : List Ms) (en : Int) (σ : FwSt) (e : Ending) (w' : World) : Prop :=
  ∃ nv wv' bv', e = .returned (.tuple #[nv, .int .i64 en]) ∧ RfG w r wv bv wv' bv' σ nv l w'
theorem nbOf_ky (x : Nb) : nbOf (kyOf x) = x := rfl
theorem put_map {x : Nb} {kv : List ((Int × Int) × Ms)} (h : kfind (x.e, x.n) kv = none) : (kput (x.e, x.n) x.m kv).map nbOf = kv.map nbOf ++ [x] := by
  rw [kput_new h, List.map_append]; rfl
theorem ky_wt_addr {w : World} {A : Option Addr} {n cap : Nat} {kv : List ((Int × Int) × Ms)} (h : NbL w (.slice A n cap) (kv.map nbOf)) {i : Nat} {k : Int × Int} {m : Ms} (hi : kv[i]? = some (k, m)) : ∃ b off, A = some ⟨b, off, none⟩ ∧ b < w.heap.size ∧ NbCells w b (off + i * 5) (nbOf (k, m)) := by
  obtain ⟨hl, e⟩ := List.getElem?_eq_some_iff.1 hi
  obtain ⟨b, off, h1, h2, h3⟩ := Sl.atN h (j := i) (by rw [List.length_map]; exact hl)
  rw [List.getElem_map, e] at h3
  exact ⟨b, off, h1, h2, h3⟩
set_option maxRecDepth 100000 in
set_option maxHeartbeats 12800000 in
theorem ref_recv {w : World} {r : Nat} {wv bv : Value} {σ : FwSt} (h : RfAt w r wv bv σ) (hwl : σ.wt.length ≤ 99999) (hbl : σ.bf.length ≤ 99999) (x : Nb) :
    Calls Try.prog 15 #[.pointer (some ⟨r, 0, none⟩), x.val] w (RefR w r wv bv (refL σ x) (recvE σ x) (refS σ x)) := by
  have HG := Lib.hid (RfG.new h)
  obtain ⟨rb, hrb⟩ : ∃ rb, rightB x.m = rb := ⟨_, rfl⟩
  have Hrb := Lib.hid hrb
  have hbad : badB x = (!rb || decide (x.n < 1)) := by unfold badB; rw [hrb]
  have Hbad := Lib.hid hbad
  have HWl := Lib.hid hwl
  have HBl := Lib.hid hbl
  obtain ⟨ep, hep⟩ : ∃ ep, σ.ep = ep := ⟨_, rfl⟩
  have Hep := Lib.hid hep
  clear h hrb hbad hwl hbl hep
  go_enter Try.func15, Try.ntmps15
  go_upto_region 0 with fail
  refine wp_region_line [(0,2),(1,0),(2,0)] (by kernel_rfl) (by kernel_rfl) (Ext w) (fun _ _ h k => h.trans k) (Ext.refl _) ?_
  refine Fx.mkPtr (fun B w' => w.heap.size ≤ B ∧ Obj_ w' B 5 (nbF x)) (fun B _ _ h k => ⟨h.1, h.2.ext k⟩) rfl rfl (fun w' hC => stepAt_box_Nb hC x rfl) (fun B3 => ?_)
  simp only [List.set_cons_zero, List.set_cons_succ]
  iterate 2
    first
      | refine Fx.skip rfl rfl (by simp only [List.set_cons_zero, List.set_cons_succ]; rfl) ?_
      | (with_reducible refine Fx.lab0 ?_
         first
           | refine Fx.moveT rfl rfl rfl (by simp only [List.set_cons_zero, List.set_cons_succ]; rfl) ?_
           | refine Fx.assignT rfl rfl rfl (by simp only [List.set_cons_zero, List.set_cons_succ]; rfl) ?_
           | refine Fx.pure_ rfl rfl (fun _ => by go_simp; first | done | rfl) (by simp only [List.set_cons_zero, List.set_cons_succ]; rfl) ?_)
      | (with_reducible refine Fx.lab1 ?_
         refine Fx.look rfl rfl (fun w' hC => by obtain ⟨hc, hf, hl⟩ := Ext.cells hC; go_simp; rfl) (by simp only [List.set_cons_zero, List.set_cons_succ]; rfl) ?_)
  refine Fx.done (fun w1 hC => ?_)
  have HG1 := Lib.hid (HG.out.ext hC.1)
  have HO1 := Lib.hid hC.2.2
  clear hC HG
  obtain ⟨m0, m1, m2⟩ := HO1.out.nb.ms
  have nl := HO1.out.lt
  go_upto_region 1 with fail
  refine wp_region_line [(0,0),(1,1),(2,1),(3,0)] (by kernel_rfl) (by kernel_rfl) (Ext w1) (fun _ _ h k => h.trans k) (Ext.refl _) ?_
  first
    | refine Fx.skip rfl rfl (by simp only [List.set_cons_zero, List.set_cons_succ]; rfl) ?_
    | (with_reducible refine Fx.lab0 ?_
       first
         | refine Fx.moveT rfl rfl rfl (by simp only [List.set_cons_zero, List.set_cons_succ]; rfl) ?_
         | refine Fx.assignT rfl rfl rfl (by simp only [List.set_cons_zero, List.set_cons_succ]; rfl) ?_
         | refine Fx.pure_ rfl rfl (fun _ => by go_simp; first | done | rfl) (by simp only [List.set_cons_zero, List.set_cons_succ]; rfl) ?_)
    | (with_reducible refine Fx.lab1 ?_
       refine Fx.look rfl rfl (fun w' hC => by obtain ⟨hc, hf, hl⟩ := Ext.cells hC; go_simp; rfl) (by simp only [List.set_cons_zero, List.set_cons_succ]; rfl) ?_)
  refine Fx.look rfl rfl (op_load_Ms' (m := x.m) nl m0 m1 m2 rfl) (by simp only [List.set_cons_zero, List.set_cons_succ]; rfl) ?_
  refine Fx.call1 (v := .bool rb) (args := #[x.m.val]) rfl rfl (fun _ => by first | (go_simp; done) | (go_simp; rfl)) (fun w' hC => (right_ref x.m w').mono (fun e w'' hh => by rw [Hrb.out] at hh; exact hh)) (by simp only [List.set_cons_zero, List.set_cons_succ]; rfl) ?_
  first
    | refine Fx.skip rfl rfl (by simp only [List.set_cons_zero, List.set_cons_succ]; rfl) ?_
    | (with_reducible refine Fx.lab0 ?_
       first
         | refine Fx.moveT rfl rfl rfl (by simp only [List.set_cons_zero, List.set_cons_succ]; rfl) ?_
         | refine Fx.assignT rfl rfl rfl (by simp only [List.set_cons_zero, List.set_cons_succ]; rfl) ?_
         | refine Fx.pure_ rfl rfl (fun _ => by go_simp; first | done | rfl) (by simp only [List.set_cons_zero, List.set_cons_succ]; rfl) ?_)
    | (with_reducible refine Fx.lab1 ?_
       refine Fx.look rfl rfl (fun w' hC => by obtain ⟨hc, hf, hl⟩ := Ext.cells hC; go_simp; rfl) (by simp only [List.set_cons_zero, List.set_cons_succ]; rfl) ?_)
  refine Fx.done (fun w2 hC => ?_)
  have HG2 := Lib.hid (HG1.out.ext hC)
  have HO2 := Lib.hid (HO1.out.ext hC)
  clear hC HG1 HO1 m0 m1 m2 nl
  have n1 := HO2.out.nb.c1
  have nl := HO2.out.lt
  simp only [Nat.zero_add] at n1
  obtain ⟨pe, hpe⟩ : ∃ pe, x.e = pe := ⟨_, rfl⟩
  obtain ⟨pn, hpn⟩ : ∃ pn, x.n = pn := ⟨_, rfl⟩
  have Hpe := Lib.hid hpe
  have Hpn := Lib.hid hpn
  rw [hpn] at n1
  have hbad := Hbad.out
  rw [hpn] at hbad
  clear hpe hpn
  cases rb with
  | false =>
    have hb : badB x = true := by rw [hbad]; rfl
    have Hb := Lib.hid hb
    clear hb hbad
    go_wp2
    go_ret2
    unfold refL refS recvE
    rw [Hb.out]
    exact ⟨_, _, _, rfl, HG2.out⟩
  | true =>
  by_cases hn1 : pn < 1
  · have hb : badB x = true := by rw [hbad]; simp [hn1]
    have Hb := Lib.hid hb
    have hd : decide (pn < 1) = true := by simpa using hn1
    clear hb hbad
    go_wp2
    go_ret2
    unfold refL refS recvE
    rw [Hb.out]
    exact ⟨_, _, _, rfl, HG2.out⟩
  have hb : badB x = false := by rw [hbad]; simp [hn1]
  have Hb := Lib.hid hb
  have hd : decide (pn < 1) = false := by simpa using hn1
  clear hb hbad
  go_upto_region 4 with fail
  clear n1 nl
  have n0 := HO2.out.nb.c0
  have nl := HO2.out.lt
  rw [Hpe.out] at n0
  obtain ⟨c0, -, -, -, lr⟩ := HG2.out.v.cells
  rw [Hep.out] at c0
  obtain ⟨q1, hq1⟩ : ∃ q, decide (pe < ep) = q := ⟨_, rfl⟩
  have Hq1 := Lib.hid hq1
  refine wp_region_plan [(0,0),(1,1),(2,0),(3,0),(4,0),(5,1),(6,0)] (by kernel_rfl) (by kernel_rfl) (by kernel_rfl) (Ext w2) (fun _ _ h k => h.trans k) (Ext.drawn _ _) ?_
  iterate 6
    first
      | refine Fx.skip rfl rfl (by simp only [List.set_cons_zero, List.set_cons_succ]; rfl) ?_
      | (with_reducible refine Fx.lab0 ?_
         first
           | refine Fx.moveT rfl rfl rfl (by simp only [List.set_cons_zero, List.set_cons_succ]; rfl) ?_
           | refine Fx.assignT rfl rfl rfl (by simp only [List.set_cons_zero, List.set_cons_succ]; rfl) ?_
           | refine Fx.pure_ rfl rfl (fun _ => by go_simp; first | done | rfl) (by simp only [List.set_cons_zero, List.set_cons_succ]; rfl) ?_)
      | (with_reducible refine Fx.lab1 ?_
         refine Fx.look rfl rfl (fun w' hC => by obtain ⟨hc, hf, hl⟩ := Ext.cells hC; go_simp; rfl) (by simp only [List.set_cons_zero, List.set_cons_succ]; rfl) ?_)
  refine Fx.pure_ (v := .bool q1) rfl rfl (fun _ => by first | (go_simp; done) | (go_simp; rfl)) (by simp only [List.set_cons_zero, List.set_cons_succ]; rfl) ?_
  refine Fx.done (fun w3 hC => ?_)
  have HG3 := Lib.hid (HG2.out.ext hC)
  have HO3 := Lib.hid (HO2.out.ext hC)
  clear hC HG2 HO2 n0 nl c0 lr hq1
  cases q1 with
  | true =>
    go_wp2
    go_ret2
    have hlt : x.e < σ.ep := by rw [Hpe.out, Hep.out]; exact of_decide_eq_true Hq1.out
    unfold refL refS recvE
    rw [Hb.out]
    simp only [Bool.false_eq_true, if_false, if_pos hlt]
    rw [if_neg (show ¬ x.e = σ.ep by omega)]
    exact ⟨_, _, _, rfl, HG3.out⟩
  | false =>
  have n0 := HO3.out.nb.c0
  have nl := HO3.out.lt
  rw [Hpe.out] at n0
  obtain ⟨c0, -, -, -, lr⟩ := HG3.out.v.cells
  rw [Hep.out] at c0
  obtain ⟨q2, hq2⟩ : ∃ q, decide (ep < pe) = q := ⟨_, rfl⟩
  have Hq2 := Lib.hid hq2
  go_upto_region 6 with fail
  refine wp_region_plan [(0,0),(1,1),(2,0),(3,0),(4,0),(5,1),(6,0)] (by kernel_rfl) (by kernel_rfl) (by kernel_rfl) (Ext w3) (fun _ _ h k => h.trans k) (Ext.drawn _ _) ?_
  iterate 6
    first
      | refine Fx.skip rfl rfl (by simp only [List.set_cons_zero, List.set_cons_succ]; rfl) ?_
      | (with_reducible refine Fx.lab0 ?_
         first
           | refine Fx.moveT rfl rfl rfl (by simp only [List.set_cons_zero, List.set_cons_succ]; rfl) ?_
           | refine Fx.assignT rfl rfl rfl (by simp only [List.set_cons_zero, List.set_cons_succ]; rfl) ?_
           | refine Fx.pure_ rfl rfl (fun _ => by go_simp; first | done | rfl) (by simp only [List.set_cons_zero, List.set_cons_succ]; rfl) ?_)
      | (with_reducible refine Fx.lab1 ?_
         refine Fx.look rfl rfl (fun w' hC => by obtain ⟨hc, hf, hl⟩ := Ext.cells hC; go_simp; rfl) (by simp only [List.set_cons_zero, List.set_cons_succ]; rfl) ?_)
  refine Fx.pure_ (v := .bool q2) rfl rfl (fun _ => by first | (go_simp; done) | (go_simp; rfl)) (by simp only [List.set_cons_zero, List.set_cons_succ]; rfl) ?_
  refine Fx.done (fun w4 hC => ?_)
  have HG4 := Lib.hid (HG3.out.ext hC)
  have HO4 := Lib.hid (HO3.out.ext hC)
  clear hC HG3 HO3 n0 nl c0 lr hq2
  have hq1f : ¬ x.e < σ.ep := by rw [Hpe.out, Hep.out]; exact of_decide_eq_false Hq1.out
  cases q2 with
  | true =>
    have hgt : σ.ep < x.e := by rw [Hpe.out, Hep.out]; exact of_decide_eq_true Hq2.out
    have hkp : refL σ x = [] ∧ recvE σ x = 0 ∧ refS σ x = keepS σ x := by
      unfold refL refS recvE
      rw [Hb.out]
      simp only [Bool.false_eq_true, if_false, if_neg hq1f, if_pos hgt]
      rw [if_neg (show ¬ x.e = σ.ep by omega)]
      refine ⟨?_, ?_, ?_⟩ <;> first | rfl | trivial
    have HK := Lib.hid hkp
    have HBl' := HBl.out
    obtain ⟨n, hn⟩ : ∃ n, σ.bf.length = n := ⟨_, rfl⟩
    have Hn := Lib.hid hn
    rw [hn] at HBl'
    obtain ⟨bA, bcap, hbv, -⟩ := HG4.out.v.b_.val
    rw [List.length_map, hn] at hbv
    obtain ⟨f, hf⟩ : ∃ f, (kfind (pe, pn) σ.bf).isSome = f := ⟨_, rfl⟩
    have Hf := Lib.hid hf
    obtain ⟨z, hz⟩ : ∃ z, posZ (pe, pn) σ.bf = z := ⟨_, rfl⟩
    have Hz := Lib.hid hz
    have hzf : decide (z < 0) = !f := by rw [← hz, ← hf]; exact posZ_neg
    have Hbv := Lib.hid hbv
    have n0 := HO4.out.nb.c0
    have n1 := HO4.out.nb.c1
    have nl := HO4.out.lt
    rw [Hpe.out] at n0
    rw [Hpn.out] at n1
    simp only [Nat.zero_add] at n1
    obtain ⟨-, -, -, c3, lr⟩ := HG4.out.v.cells
    rw [hbv] at c3
    clear hkp hgt hq1f hn hbv hf hz
    by_cases h64 : n < 64
    · have hd64 : decide ((n : Int) < 64) = true := by apply decide_eq_true; omega
      have H64 := Lib.hid h64
      clear h64
      go_upto_region 7 with fail
      refine wp_region_plan [(0,0),(1,0),(2,0),(3,1),(4,0),(5,0),(6,0),(7,0),(8,0),(9,0),(10,1),(11,0),(12,1),(13,0),(14,1),(15,1),(16,0),(17,0)] (by kernel_rfl) (by kernel_rfl) (by kernel_rfl) (Ext w4) (fun _ _ h k => h.trans k) (Ext.drawn _ _) ?_
      iterate 15
        first
          | refine Fx.skip rfl rfl (by simp only [List.set_cons_zero, List.set_cons_succ]; rfl) ?_
          | (with_reducible refine Fx.lab0 ?_
             first
               | refine Fx.moveT rfl rfl rfl (by simp only [List.set_cons_zero, List.set_cons_succ]; rfl) ?_
               | refine Fx.assignT rfl rfl rfl (by simp only [List.set_cons_zero, List.set_cons_succ]; rfl) ?_
               | refine Fx.pure_ rfl rfl (fun _ => by go_simp; first | done | rfl) (by simp only [List.set_cons_zero, List.set_cons_succ]; rfl) ?_)
          | (with_reducible refine Fx.lab1 ?_
             refine Fx.look rfl rfl (fun w' hC => by obtain ⟨hc, hf, hl⟩ := Ext.cells hC; go_simp; rfl) (by simp only [List.set_cons_zero, List.set_cons_succ]; rfl) ?_)
      refine Fx.call1 (v := .int .i64 z) (args := #[.slice bA n bcap, .int .u32 pe, .int .u32 pn]) rfl rfl (fun _ => by first | (go_simp; done) | (go_simp; rfl)) (fun w' hC => (find_ref σ.bf (by have h := (HG4.out.v.b_.ext hC).sl Nb.len; rw [Hbv.out] at h; exact h) (by rw [Hn.out]; omega) pe pn).mono (fun e w'' hh => by rw [Hz.out] at hh; exact hh)) (by simp only [List.set_cons_zero, List.set_cons_succ]; rfl) ?_
      refine Fx.pure_ (v := .bool (!f)) rfl rfl (fun _ => by first | (go_simp; done) | (go_simp; rfl)) (by simp only [List.set_cons_zero, List.set_cons_succ]; rfl) ?_
      first
        | refine Fx.skip rfl rfl (by simp only [List.set_cons_zero, List.set_cons_succ]; rfl) ?_
        | (with_reducible refine Fx.lab0 ?_
           first
             | refine Fx.moveT rfl rfl rfl (by simp only [List.set_cons_zero, List.set_cons_succ]; rfl) ?_
             | refine Fx.assignT rfl rfl rfl (by simp only [List.set_cons_zero, List.set_cons_succ]; rfl) ?_
             | refine Fx.pure_ rfl rfl (fun _ => by go_simp; first | done | rfl) (by simp only [List.set_cons_zero, List.set_cons_succ]; rfl) ?_)
        | (with_reducible refine Fx.lab1 ?_
           refine Fx.look rfl rfl (fun w' hC => by obtain ⟨hc, hf, hl⟩ := Ext.cells hC; go_simp; rfl) (by simp only [List.set_cons_zero, List.set_cons_succ]; rfl) ?_)
      refine Fx.done (fun w5 hC => ?_)
      have HG5 := Lib.hid (HG4.out.ext hC)
      have HO5 := Lib.hid (HO4.out.ext hC)
      clear hC HG4 HO4 n0 n1 nl c3 lr hzf
      cases f with
      | true =>
        go_wp2
        go_ret2
        have : keepS σ x = σ := by unfold keepS; rw [Hpe.out, Hpn.out, Hf.out]; rfl
        obtain ⟨k1, k2, k3⟩ := HK.out
        rw [k1, k2, k3, this]
        exact ⟨_, _, _, rfl, HG5.out⟩
      | false =>
        have hkn : kfind (x.e, x.n) σ.bf = none := by
          have := Hf.out
          rw [Hpe.out, Hpn.out]
          cases hh : kfind (pe, pn) σ.bf with
          | none => rfl
          | some v => rw [hh] at this; cases this
        have Hkn := Lib.hid hkn
        have hN := HO5.out.nb
        have nl := HO5.out.lt
        obtain ⟨-, -, -, c3, lr⟩ := HG5.out.v.cells
        have f3 := HG5.out.v.o.free 3
        have hbo := HG5.out.v.b_
        rw [Hbv.out] at c3 hbo
        have Hbo := Lib.hid hbo
        have hbr := HG5.out.v.br
        rw [Hbv.out] at hbr
        have Hbr := Lib.hid hbr
        clear hkn hbo hbr
        go_upto_region 8 with fail
        refine wp_region_plan [(0,0),(1,0),(2,0),(3,0),(4,1),(5,1),(6,2),(7,3),(8,0),(9,0),(10,3)] (by kernel_rfl) (by kernel_rfl) (by kernel_rfl) (Ext w5) (fun _ _ h k => h.trans k) (Ext.drawn _ _) ?_
        iterate 5
          first
            | refine Fx.skip rfl rfl (by simp only [List.set_cons_zero, List.set_cons_succ]; rfl) ?_
            | (with_reducible refine Fx.lab0 ?_
               first
                 | refine Fx.moveT rfl rfl rfl (by simp only [List.set_cons_zero, List.set_cons_succ]; rfl) ?_
                 | refine Fx.assignT rfl rfl rfl (by simp only [List.set_cons_zero, List.set_cons_succ]; rfl) ?_
                 | refine Fx.pure_ rfl rfl (fun _ => by go_simp; first | done | rfl) (by simp only [List.set_cons_zero, List.set_cons_succ]; rfl) ?_)
            | (with_reducible refine Fx.lab1 ?_
               refine Fx.look rfl rfl (fun w' hC => by obtain ⟨hc, hf, hl⟩ := Ext.cells hC; go_simp; rfl) (by simp only [List.set_cons_zero, List.set_cons_succ]; rfl) ?_)
        refine Fx.look rfl rfl (op_load_Nb' (m := x) nl hN rfl) (by simp only [List.set_cons_zero, List.set_cons_succ]; rfl) ?_
        refine Fx.mkSl 1 1 (fun B w' => w5.heap.size ≤ B ∧ NbL w' (.slice (some ⟨B, 0, none⟩) 1 1) [x]) (fun B _ _ h k => ⟨h.1, h.2.ext k⟩) rfl rfl (fun w' hC => stepAt_lit1N hC x rfl) (fun B2 => ?_)
        simp only [List.set_cons_zero, List.set_cons_succ]
        refine Fx.eff (fun v' w' => OwnNb w' v' (σ.bf.map nbOf ++ [x]) ∧ Mods (fun c => Value.ownBlock (.slice bA n bcap) = some c) w5 w' ∧ (∀ c, v'.ownBlock = some c → Value.ownBlock (.slice bA n bcap) = some c ∨ w5.heap.size ≤ c)) (fun v _ _ h k => ⟨h.1.ext k, h.2.1.then_ k, h.2.2⟩) rfl rfl
          (fun w' hC => stepAt_appendN hC.1 (Hbo.out.ext hC.1) hC.2.2 (by rw [List.length_map, Hn.out]; have := H64.out; simp; omega) rfl rfl) (fun v3 => ?_)
        simp only [List.set_cons_zero, List.set_cons_succ]
        iterate 2
          first
            | refine Fx.skip rfl rfl (by simp only [List.set_cons_zero, List.set_cons_succ]; rfl) ?_
            | (with_reducible refine Fx.lab0 ?_
               first
                 | refine Fx.moveT rfl rfl rfl (by simp only [List.set_cons_zero, List.set_cons_succ]; rfl) ?_
                 | refine Fx.assignT rfl rfl rfl (by simp only [List.set_cons_zero, List.set_cons_succ]; rfl) ?_
                 | refine Fx.pure_ rfl rfl (fun _ => by go_simp; first | done | rfl) (by simp only [List.set_cons_zero, List.set_cons_succ]; rfl) ?_)
            | (with_reducible refine Fx.lab1 ?_
               refine Fx.look rfl rfl (fun w' hC => by obtain ⟨hc, hf, hl⟩ := Ext.cells hC; go_simp; rfl) (by simp only [List.set_cons_zero, List.set_cons_succ]; rfl) ?_)
        refine Fx.store ⟨r, 3, none⟩ v3 rfl rfl (fun w' hC => by
          obtain ⟨hc, hf, hl⟩ := hC.2.1.cells
          have hne : ¬ Value.ownBlock (.slice bA n bcap) = some r := fun h => Hbr.out r h rfl
          have e1 := (hc r 3 lr hne).trans c3
          have e2 := (hf r 3 lr hne).trans f3
          obtain ⟨A3, n3, c3', rfl⟩ : ∃ A n cap, v3 = .slice A n cap := by obtain ⟨A, cap, e, _⟩ := hC.1.val; exact ⟨_, _, _, e⟩
          clear hc hf hl hC
          go_simp) ?_
        refine Fx.done (fun wz hC => ?_)
        obtain ⟨wy, ⟨g1, g2, g3⟩, g4⟩ := hC
        have HZ : Hid (RfG w r wv bv wv v3 (keepS σ x) (.slice none 0 0) [] wz) := by
          have e : keepS σ x = { σ with bf := kput (x.e, x.n) x.m σ.bf } := by
            unfold keepS
            rw [Hkn.out, Hn.out]
            simp [H64.out]
          rw [e]
          rw [← Hbv.out] at g2 g3
          exact Lib.hid (HG5.out.setB (by rw [put_map Hkn.out]; exact g1) g2 g3 g4)
        clear g1 g2 g3 g4 c3 f3 lr hN nl
        go_wp2
        go_ret2
        obtain ⟨k1, k2, k3⟩ := HK.out
        rw [k1, k2, k3]
        exact ⟨_, _, _, rfl, HZ.out⟩
    · have hd64 : decide ((n : Int) < 64) = false := by apply decide_eq_false; omega
      have H64 := Lib.hid h64
      clear h64
      go_upto_region 7 with fail
      refine wp_region_plan [(0,0),(1,0),(2,0),(3,1),(4,0),(5,0),(6,0),(7,0),(8,0),(9,0),(10,1),(11,0),(12,1),(13,0),(14,1),(15,1),(16,0),(17,0)] (by kernel_rfl) (by kernel_rfl) (by kernel_rfl) (Ext w4) (fun _ _ h k => h.trans k) (Ext.drawn _ _) ?_
      iterate 18
        first
          | refine Fx.skip rfl rfl (by simp only [List.set_cons_zero, List.set_cons_succ]; rfl) ?_
          | (with_reducible refine Fx.lab0 ?_
             first
               | refine Fx.moveT rfl rfl rfl (by simp only [List.set_cons_zero, List.set_cons_succ]; rfl) ?_
               | refine Fx.assignT rfl rfl rfl (by simp only [List.set_cons_zero, List.set_cons_succ]; rfl) ?_
               | refine Fx.pure_ rfl rfl (fun _ => by go_simp; first | done | rfl) (by simp only [List.set_cons_zero, List.set_cons_succ]; rfl) ?_)
          | (with_reducible refine Fx.lab1 ?_
             refine Fx.look rfl rfl (fun w' hC => by obtain ⟨hc, hf, hl⟩ := Ext.cells hC; go_simp; rfl) (by simp only [List.set_cons_zero, List.set_cons_succ]; rfl) ?_)
      refine Fx.done (fun w5 hC => ?_)
      have HG5 := Lib.hid (HG4.out.ext hC)
      clear hC HG4 HO4 n0 n1 nl c3 lr hzf
      go_wp2
      go_ret2
      have : keepS σ x = σ := by
        unfold keepS
        rw [Hn.out]
        split
        · rfl
        · rw [if_neg H64.out]
      obtain ⟨k1, k2, k3⟩ := HK.out
      rw [k1, k2, k3, this]
      exact ⟨_, _, _, rfl, HG5.out⟩
  | false =>
    have hq2f : ¬ σ.ep < x.e := by rw [Hpe.out, Hep.out]; exact of_decide_eq_false Hq2.out
    have hee : x.e = σ.ep := by omega
    have hkp : recvE σ x = 0 ∧ refL σ x = (if newB σ x then drain (putW σ x) else []) ∧ refS σ x = (if newB σ x then take1 σ x else σ) := by
      unfold refL refS recvE
      rw [Hb.out]
      simp only [Bool.false_eq_true, if_false, if_neg hq1f, if_neg hq2f, if_pos hee]
      refine ⟨?_, ?_, ?_⟩ <;> first | rfl | trivial
    have HK := Lib.hid hkp
    have hpee : pe = ep := by rw [← Hpe.out, ← Hep.out]; exact hee
    obtain ⟨wA, wcap, hwv, -⟩ := HG4.out.v.w_.val
    obtain ⟨n, hn⟩ : ∃ n, σ.wt.length = n := ⟨_, rfl⟩
    have Hn := Lib.hid hn
    rw [List.length_map, hn] at hwv
    obtain ⟨nx, hnx⟩ : ∃ nx, σ.nx = nx := ⟨_, rfl⟩
    have Hnx := Lib.hid hnx
    obtain ⟨f, hf⟩ : ∃ f, (kfind (pe, pn) σ.wt).isSome = f := ⟨_, rfl⟩
    have Hf := Lib.hid hf
    obtain ⟨z, hz⟩ : ∃ z, posZ (pe, pn) σ.wt = z := ⟨_, rfl⟩
    have Hz := Lib.hid hz
    have hzf : decide (0 ≤ z) = f := by
      have h1 : decide (posZ (pe, pn) σ.wt < 0) = !(kfind (pe, pn) σ.wt).isSome := posZ_neg
      rw [hz, hf] at h1
      cases f with
      | true => have := of_decide_eq_false (show decide (z < 0) = false by simpa using h1); exact decide_eq_true (by omega)
      | false => have := of_decide_eq_true (show decide (z < 0) = true by simpa using h1); exact decide_eq_false (by omega)
    have Hwv := Lib.hid hwv
    have n0 := HO4.out.nb.c0
    have n1 := HO4.out.nb.c1
    have nl := HO4.out.lt
    rw [Hpe.out] at n0
    rw [Hpn.out] at n1
    simp only [Nat.zero_add] at n1
    obtain ⟨-, c1, c2, -, lr⟩ := HG4.out.v.cells
    rw [hnx] at c1
    rw [hwv] at c2
    obtain ⟨q3, hq3⟩ : ∃ q, decide (pn < nx) = q := ⟨_, rfl⟩
    have Hq3 := Lib.hid hq3
    have hnew : newB σ x = (!f && !q3) := by
      unfold newB
      rw [Hpe.out, Hpn.out, hf, hnx, ← hq3]
      by_cases h : pn < nx
      · have : ¬ nx ≤ pn := by omega
        simp [h, this]
      · have : nx ≤ pn := by omega
        simp [h, this]
    have Hnew := Lib.hid hnew
    have Hpee := Lib.hid hpee
    clear hkp hq1f hq2f hee hn hwv hf hz hnx hnew hpee
    cases q3 with
    | true =>
      go_upto_region 10 with fail
      refine wp_region_plan [(0,0),(1,1),(2,0),(3,0),(4,0),(5,1),(6,0),(7,0),(8,0),(9,0),(10,0),(11,1),(12,0),(13,1),(14,0),(15,1),(16,1),(17,0),(18,0)] (by kernel_rfl) (by kernel_rfl) (by kernel_rfl) (Ext w4) (fun _ _ h k => h.trans k) (Ext.drawn _ _) ?_
      iterate 6
        first
          | refine Fx.skip rfl rfl (by simp only [List.set_cons_zero, List.set_cons_succ]; rfl) ?_
          | (with_reducible refine Fx.lab0 ?_
             first
               | refine Fx.moveT rfl rfl rfl (by simp only [List.set_cons_zero, List.set_cons_succ]; rfl) ?_
               | refine Fx.assignT rfl rfl rfl (by simp only [List.set_cons_zero, List.set_cons_succ]; rfl) ?_
               | refine Fx.pure_ rfl rfl (fun _ => by go_simp; first | done | rfl) (by simp only [List.set_cons_zero, List.set_cons_succ]; rfl) ?_)
          | (with_reducible refine Fx.lab1 ?_
             refine Fx.look rfl rfl (fun w' hC => by obtain ⟨hc, hf, hl⟩ := Ext.cells hC; go_simp; rfl) (by simp only [List.set_cons_zero, List.set_cons_succ]; rfl) ?_)
      refine Fx.pure_ (v := .bool true) rfl rfl (fun _ => by first | (go_simp; done) | (go_simp; rfl)) (by simp only [List.set_cons_zero, List.set_cons_succ]; rfl) ?_
      iterate 12
        first
          | refine Fx.skip rfl rfl (by simp only [List.set_cons_zero, List.set_cons_succ]; rfl) ?_
          | (with_reducible refine Fx.lab0 ?_
             first
               | refine Fx.moveT rfl rfl rfl (by simp only [List.set_cons_zero, List.set_cons_succ]; rfl) ?_
               | refine Fx.assignT rfl rfl rfl (by simp only [List.set_cons_zero, List.set_cons_succ]; rfl) ?_
               | refine Fx.pure_ rfl rfl (fun _ => by go_simp; first | done | rfl) (by simp only [List.set_cons_zero, List.set_cons_succ]; rfl) ?_)
          | (with_reducible refine Fx.lab1 ?_
             refine Fx.look rfl rfl (fun w' hC => by obtain ⟨hc, hf, hl⟩ := Ext.cells hC; go_simp; rfl) (by simp only [List.set_cons_zero, List.set_cons_succ]; rfl) ?_)
      refine Fx.done (fun w5 hC => ?_)
      have HG5 := Lib.hid (HG4.out.ext hC)
      clear hC HG4 HO4 n0 n1 nl c1 c2 lr hzf hq3
      go_wp2
      go_ret2
      have : newB σ x = false := by rw [Hnew.out]; cases f <;> rfl
      obtain ⟨k1, k2, k3⟩ := HK.out
      rw [k1, k2, k3, this]
      simp only [Bool.false_eq_true, if_false]
      exact ⟨_, _, _, rfl, HG5.out⟩
    | false =>
    go_upto_region 10 with fail
    refine wp_region_plan [(0,0),(1,1),(2,0),(3,0),(4,0),(5,1),(6,0),(7,0),(8,0),(9,0),(10,0),(11,1),(12,0),(13,1),(14,0),(15,1),(16,1),(17,0),(18,0)] (by kernel_rfl) (by kernel_rfl) (by kernel_rfl) (Ext w4) (fun _ _ h k => h.trans k) (Ext.drawn _ _) ?_
    iterate 6
      first
        | refine Fx.skip rfl rfl (by simp only [List.set_cons_zero, List.set_cons_succ]; rfl) ?_
        | (with_reducible refine Fx.lab0 ?_
           first
             | refine Fx.moveT rfl rfl rfl (by simp only [List.set_cons_zero, List.set_cons_succ]; rfl) ?_
             | refine Fx.assignT rfl rfl rfl (by simp only [List.set_cons_zero, List.set_cons_succ]; rfl) ?_
             | refine Fx.pure_ rfl rfl (fun _ => by go_simp; first | done | rfl) (by simp only [List.set_cons_zero, List.set_cons_succ]; rfl) ?_)
        | (with_reducible refine Fx.lab1 ?_
           refine Fx.look rfl rfl (fun w' hC => by obtain ⟨hc, hf, hl⟩ := Ext.cells hC; go_simp; rfl) (by simp only [List.set_cons_zero, List.set_cons_succ]; rfl) ?_)
    refine Fx.pure_ (v := .bool false) rfl rfl (fun _ => by first | (go_simp; done) | (go_simp; rfl)) (by simp only [List.set_cons_zero, List.set_cons_succ]; rfl) ?_
    iterate 9
      first
        | refine Fx.skip rfl rfl (by simp only [List.set_cons_zero, List.set_cons_succ]; rfl) ?_
        | (with_reducible refine Fx.lab0 ?_
           first
             | refine Fx.moveT rfl rfl rfl (by simp only [List.set_cons_zero, List.set_cons_succ]; rfl) ?_
             | refine Fx.assignT rfl rfl rfl (by simp only [List.set_cons_zero, List.set_cons_succ]; rfl) ?_
             | refine Fx.pure_ rfl rfl (fun _ => by go_simp; first | done | rfl) (by simp only [List.set_cons_zero, List.set_cons_succ]; rfl) ?_)
        | (with_reducible refine Fx.lab1 ?_
           refine Fx.look rfl rfl (fun w' hC => by obtain ⟨hc, hf, hl⟩ := Ext.cells hC; go_simp; rfl) (by simp only [List.set_cons_zero, List.set_cons_succ]; rfl) ?_)
    refine Fx.call1 (v := .int .i64 z) (args := #[.slice wA n wcap, .int .u32 pe, .int .u32 pn]) rfl rfl (fun _ => by first | (go_simp; done) | (go_simp; rfl)) (fun w' hC => (find_ref σ.wt (by have h := (HG4.out.v.w_.ext hC).sl Nb.len; rw [Hwv.out] at h; exact h) (by have := HWl.out; omega) pe pn).mono (fun e w'' hh => by rw [Hz.out] at hh; exact hh)) (by simp only [List.set_cons_zero, List.set_cons_succ]; rfl) ?_
    refine Fx.pure_ (v := .bool f) rfl rfl (fun _ => by first | (go_simp; done) | (go_simp; rfl)) (by simp only [List.set_cons_zero, List.set_cons_succ]; rfl) ?_
    first
      | refine Fx.skip rfl rfl (by simp only [List.set_cons_zero, List.set_cons_succ]; rfl) ?_
      | (with_reducible refine Fx.lab0 ?_
         first
           | refine Fx.moveT rfl rfl rfl (by simp only [List.set_cons_zero, List.set_cons_succ]; rfl) ?_
           | refine Fx.assignT rfl rfl rfl (by simp only [List.set_cons_zero, List.set_cons_succ]; rfl) ?_
           | refine Fx.pure_ rfl rfl (fun _ => by go_simp; first | done | rfl) (by simp only [List.set_cons_zero, List.set_cons_succ]; rfl) ?_)
      | (with_reducible refine Fx.lab1 ?_
         refine Fx.look rfl rfl (fun w' hC => by obtain ⟨hc, hf, hl⟩ := Ext.cells hC; go_simp; rfl) (by simp only [List.set_cons_zero, List.set_cons_succ]; rfl) ?_)
    refine Fx.done (fun w5 hC => ?_)
    have HG5 := Lib.hid (HG4.out.ext hC)
    have HO5 := Lib.hid (HO4.out.ext hC)
    clear hC HG4 HO4 n0 n1 nl c1 c2 lr hzf hq3
    cases f with
    | true =>
      go_wp2
      go_ret2
      have : newB σ x = false := by rw [Hnew.out]; rfl
      obtain ⟨k1, k2, k3⟩ := HK.out
      rw [k1, k2, k3, this]
      simp only [Bool.false_eq_true, if_false]
      exact ⟨_, _, _, rfl, HG5.out⟩
    | false =>
    have hnb : newB σ x = true := by rw [Hnew.out]; rfl
    obtain ⟨hkn, -, hput⟩ := newB_true hnb
    have Hnb := Lib.hid hnb
    have Hkn := Lib.hid hkn
    have Hput := Lib.hid hput
    have hN := HO5.out.nb
    have nl := HO5.out.lt
    obtain ⟨-, -, c2, -, lr⟩ := HG5.out.v.cells
    have f2 := HG5.out.v.o.free 2
    have hwo := HG5.out.v.w_
    rw [Hwv.out] at c2 hwo
    have Hwo := Lib.hid hwo
    have hwr := HG5.out.v.wr
    rw [Hwv.out] at hwr
    have Hwr := Lib.hid hwr
    clear hkn hput hwo hwr hnb
    go_upto_region 12 with fail
    refine wp_region_plan [(0,0),(1,0),(2,0),(3,0),(4,1),(5,1),(6,2),(7,3),(8,0),(9,0),(10,3)] (by kernel_rfl) (by kernel_rfl) (by kernel_rfl) (Ext w5) (fun _ _ h k => h.trans k) (Ext.drawn _ _) ?_
    iterate 5
      first
        | refine Fx.skip rfl rfl (by simp only [List.set_cons_zero, List.set_cons_succ]; rfl) ?_
        | (with_reducible refine Fx.lab0 ?_
           first
             | refine Fx.moveT rfl rfl rfl (by simp only [List.set_cons_zero, List.set_cons_succ]; rfl) ?_
             | refine Fx.assignT rfl rfl rfl (by simp only [List.set_cons_zero, List.set_cons_succ]; rfl) ?_
             | refine Fx.pure_ rfl rfl (fun _ => by go_simp; first | done | rfl) (by simp only [List.set_cons_zero, List.set_cons_succ]; rfl) ?_)
        | (with_reducible refine Fx.lab1 ?_
           refine Fx.look rfl rfl (fun w' hC => by obtain ⟨hc, hf, hl⟩ := Ext.cells hC; go_simp; rfl) (by simp only [List.set_cons_zero, List.set_cons_succ]; rfl) ?_)
    refine Fx.look rfl rfl (op_load_Nb' (m := x) nl hN rfl) (by simp only [List.set_cons_zero, List.set_cons_succ]; rfl) ?_
    refine Fx.mkSl 1 1 (fun B w' => w5.heap.size ≤ B ∧ NbL w' (.slice (some ⟨B, 0, none⟩) 1 1) [x]) (fun B _ _ h k => ⟨h.1, h.2.ext k⟩) rfl rfl (fun w' hC => stepAt_lit1N hC x rfl) (fun B2 => ?_)
    simp only [List.set_cons_zero, List.set_cons_succ]
    refine Fx.eff (fun v' w' => OwnNb w' v' (σ.wt.map nbOf ++ [x]) ∧ Mods (fun c => Value.ownBlock (.slice wA n wcap) = some c) w5 w' ∧ (∀ c, v'.ownBlock = some c → Value.ownBlock (.slice wA n wcap) = some c ∨ w5.heap.size ≤ c)) (fun v _ _ h k => ⟨h.1.ext k, h.2.1.then_ k, h.2.2⟩) rfl rfl
      (fun w' hC => stepAt_appendN hC.1 (Hwo.out.ext hC.1) hC.2.2 (by rw [List.length_map]; have := HWl.out; simp; omega) rfl rfl) (fun v3 => ?_)
    simp only [List.set_cons_zero, List.set_cons_succ]
    iterate 2
      first
        | refine Fx.skip rfl rfl (by simp only [List.set_cons_zero, List.set_cons_succ]; rfl) ?_
        | (with_reducible refine Fx.lab0 ?_
           first
             | refine Fx.moveT rfl rfl rfl (by simp only [List.set_cons_zero, List.set_cons_succ]; rfl) ?_
             | refine Fx.assignT rfl rfl rfl (by simp only [List.set_cons_zero, List.set_cons_succ]; rfl) ?_
             | refine Fx.pure_ rfl rfl (fun _ => by go_simp; first | done | rfl) (by simp only [List.set_cons_zero, List.set_cons_succ]; rfl) ?_)
        | (with_reducible refine Fx.lab1 ?_
           refine Fx.look rfl rfl (fun w' hC => by obtain ⟨hc, hf, hl⟩ := Ext.cells hC; go_simp; rfl) (by simp only [List.set_cons_zero, List.set_cons_succ]; rfl) ?_)
    refine Fx.store ⟨r, 2, none⟩ v3 rfl rfl (fun w' hC => by
      obtain ⟨hc, hf, hl⟩ := hC.2.1.cells
      have hne : ¬ Value.ownBlock (.slice wA n wcap) = some r := fun h => Hwr.out r h rfl
      have e1 := (hc r 2 lr hne).trans c2
      have e2 := (hf r 2 lr hne).trans f2
      obtain ⟨A3, n3, c3', rfl⟩ : ∃ A n cap, v3 = .slice A n cap := by obtain ⟨A, cap, e, _⟩ := hC.1.val; exact ⟨_, _, _, e⟩
      clear hc hf hl hC
      go_simp) ?_
    refine Fx.done (fun wz hC => ?_)
    obtain ⟨wy, ⟨g1, g2, g3⟩, g4⟩ := hC
    obtain ⟨τ, hτ⟩ : ∃ τ, putW σ x = τ := ⟨_, rfl⟩
    have HZ : Hid (RfG w r wv bv v3 bv τ (.slice none 0 0) [] wz) := by
      rw [← Hwv.out] at g2 g3
      have := HG5.out.setW (kv := kput (x.e, x.n) x.m σ.wt) (by rw [put_map Hkn.out]; exact g1) g2 g3 g4
      rw [← Hput.out, hτ] at this
      exact Lib.hid this
    have HTl : Hid (τ.wt.length ≤ 100000) := Lib.hid (by rw [← hτ, Hput.out]; have h1 := kput_len_le (x.e, x.n) x.m σ.wt; have h2 := HWl.out; show (kput (x.e, x.n) x.m σ.wt).length ≤ _; omega)
    have hTep : τ.ep = ep := by rw [← hτ, Hput.out]; exact Hep.out
    have HTep := Lib.hid hTep
    have ht1 : take1 σ x = stK τ (drain τ).length := by unfold take1; rw [hτ]
    obtain ⟨D, hD⟩ : ∃ D, drain τ = D := ⟨_, rfl⟩
    have HK2 : Hid (recvE σ x = 0 ∧ refL σ x = D ∧ refS σ x = stK τ D.length) := Lib.hid (by
      obtain ⟨k1, k2, k3⟩ := HK.out
      refine ⟨k1, ?_, ?_⟩
      · rw [k2, Hnb.out, hτ, hD]; rfl
      · rw [k3, Hnb.out, ht1, hD]; rfl)
    have HDat : Hid (∀ j m, D[j]? = some m → kfind (ep, (stK τ j).nx) (stK τ j).wt = some m) := Lib.hid (fun j m h => by rw [← hTep]; exact drain_at τ (by rw [hD]; exact h))
    have HDend : Hid (kfind (ep, (stK τ D.length).nx) (stK τ D.length).wt = none) := Lib.hid (by have := drain_end τ; rw [hD, hTep] at this; exact this)
    have HDl : Hid (D.length ≤ 100000) := Lib.hid (by have h1 := drain_len τ; have h2 := HTl.out; rw [hD] at h1; omega)
    have HStl : Hid (∀ j, j ≤ D.length → (stK τ j).wt.length ≤ 100000) := Lib.hid (fun j _ => by
      have : ∀ j, (stK τ j).wt.length ≤ τ.wt.length := fun j => by
        induction j with
        | zero => exact Nat.le_refl _
        | succ j ih => exact Nat.le_trans (kdel_len_le _ _) ih
      exact Nat.le_trans (this j) HTl.out)
    clear g1 g2 g3 g4 c2 f2 lr hN nl hτ hTep ht1 hD
    go_wp2
    go_loopw [7] (fun v7 wr => ∃ (j : Nat) (nv wv' : Value), nv = v7 ∧ j ≤ D.length ∧ Hid (RfG w r wv bv wv' bv (stK τ j) nv (D.take j) wr)) (fun v7 _ => D.length - lenV v7)
    case atStart => exact ⟨0, _, v3, rfl, Nat.zero_le _, HZ⟩
    case round =>
      clear HZ
      obtain ⟨j, nv, wv', rfl, hj, hG⟩ := hrel
      obtain ⟨xA, xcap, hxv, -⟩ := hG.out.n.val
      have HLv0 : Hid (lenV nv = j) := Lib.hid (by rw [hxv]; show (D.take j).length = j; rw [List.length_take]; omega)
      clear hxv
      obtain ⟨ρ, hρ⟩ : ∃ ρ, stK τ j = ρ := ⟨_, rfl⟩
      have hρe : ρ.ep = ep := by rw [← hρ, stK_ep]; exact HTep.out
      rw [hρ] at hG
      have HρE := Lib.hid hρe
      have hρl : ρ.wt.length ≤ 100000 := by rw [← hρ]; exact HStl.out j hj
      have Hρl := Lib.hid hρl
      obtain ⟨nx', hnx'⟩ : ∃ nx', ρ.nx = nx' := ⟨_, rfl⟩
      have Hnx' := Lib.hid hnx'
      obtain ⟨z', hz'⟩ : ∃ z', posZ (ep, nx') ρ.wt = z' := ⟨_, rfl⟩
      have Hz' := Lib.hid hz'
      obtain ⟨wA', wcap', hwv', -⟩ := hG.out.v.w_.val
      obtain ⟨n', hn'⟩ : ∃ n', ρ.wt.length = n' := ⟨_, rfl⟩
      rw [List.length_map, hn'] at hwv'
      have Hn' := Lib.hid hn'
      have Hwv' := Lib.hid hwv'
      have Hρ := Lib.hid hρ
      obtain ⟨c0, c1, c2, -, lr⟩ := hG.out.v.cells
      rw [hρe] at c0
      rw [hnx'] at c1
      rw [hwv'] at c2
      clear hρ hρe hρl hnx' hz' hwv' hn'
      go_upto_region 14 with fail
      refine wp_region_plan [(0,0),(1,0),(2,0),(3,1),(4,0),(5,0),(6,0),(7,1),(8,0),(9,0),(10,0),(11,1),(12,1),(13,0)] (by kernel_rfl) (by kernel_rfl) (by kernel_rfl) (Ext wr) (fun _ _ h k => h.trans k) (Ext.drawn _ _) ?_
      iterate 12
        first
          | refine Fx.skip rfl rfl (by simp only [List.set_cons_zero, List.set_cons_succ]; rfl) ?_
          | (with_reducible refine Fx.lab0 ?_
             first
               | refine Fx.moveT rfl rfl rfl (by simp only [List.set_cons_zero, List.set_cons_succ]; rfl) ?_
               | refine Fx.assignT rfl rfl rfl (by simp only [List.set_cons_zero, List.set_cons_succ]; rfl) ?_
               | refine Fx.pure_ rfl rfl (fun _ => by go_simp; first | done | rfl) (by simp only [List.set_cons_zero, List.set_cons_succ]; rfl) ?_)
          | (with_reducible refine Fx.lab1 ?_
             refine Fx.look rfl rfl (fun w' hC => by obtain ⟨hc, hf, hl⟩ := Ext.cells hC; go_simp; rfl) (by simp only [List.set_cons_zero, List.set_cons_succ]; rfl) ?_)
      refine Fx.call1 (v := .int .i64 z') (args := #[.slice wA' n' wcap', .int .u32 ep, .int .u32 nx']) rfl rfl (fun _ => by first | (go_simp; done) | (go_simp; rfl)) (fun w' hC => (find_ref ρ.wt (by have h := (hG.out.v.w_.ext hC).sl Nb.len; rw [Hwv'.out] at h; exact h) (Nat.le_trans Hρl.out (by decide)) ep nx').mono (fun e w'' hh => by rw [Hz'.out] at hh; exact hh)) (by simp only [List.set_cons_zero, List.set_cons_succ]; rfl) ?_
      first
        | refine Fx.skip rfl rfl (by simp only [List.set_cons_zero, List.set_cons_succ]; rfl) ?_
        | (with_reducible refine Fx.lab0 ?_
           first
             | refine Fx.moveT rfl rfl rfl (by simp only [List.set_cons_zero, List.set_cons_succ]; rfl) ?_
             | refine Fx.assignT rfl rfl rfl (by simp only [List.set_cons_zero, List.set_cons_succ]; rfl) ?_
             | refine Fx.pure_ rfl rfl (fun _ => by go_simp; first | done | rfl) (by simp only [List.set_cons_zero, List.set_cons_succ]; rfl) ?_)
        | (with_reducible refine Fx.lab1 ?_
           refine Fx.look rfl rfl (fun w' hC => by obtain ⟨hc, hf, hl⟩ := Ext.cells hC; go_simp; rfl) (by simp only [List.set_cons_zero, List.set_cons_succ]; rfl) ?_)
      refine Fx.done (fun w6 hC => ?_)
      have HG6 := Lib.hid (hG.out.ext hC)
      clear hC hG c0 c1 c2 lr
      by_cases hjl : j < D.length
      · have hk := HDat.out j D[j] (List.getElem?_eq_getElem hjl)
        rw [Hρ.out, Hnx'.out] at hk
        obtain ⟨m, hm⟩ : ∃ m, D[j] = m := ⟨_, rfl⟩
        rw [hm] at hk
        obtain ⟨i, hi, hil, hig, hdel⟩ := posZ_some hk
        rw [Hz'.out] at hi
        subst hi
        rw [Hn'.out] at hil
        have hdz : decide ((i : Int) < 0) = false := by apply decide_eq_false; omega
        have HDm : Hid (D.take (j + 1) = D.take j ++ [m]) := Lib.hid (by rw [List.take_succ_eq_append_getElem hjl, hm])
        have Hdel := Lib.hid hdel
        have Hig := Lib.hid hig
        have Hil := Lib.hid hil
        have hws := HG6.out.v.w_.sl Nb.len
        rw [Hwv'.out] at hws
        obtain ⟨jb, joff, rfl, jl, jc⟩ := ky_wt_addr hws hig
        obtain ⟨y1, y2, y3⟩ := jc.ms
        replace y1 : w6.cell? ⟨jb, joff + i * 5 + 2, none⟩ = some (.int .i64 m.f) := y1
        replace y2 : w6.cell? ⟨jb, joff + i * 5 + 2 + 1, none⟩ = some (.int .u32 m.c) := y2
        replace y3 : w6.cell? ⟨jb, joff + i * 5 + 2 + 2, none⟩ = some (.string m.d) := y3
        obtain ⟨-, -, c2, -, lr⟩ := HG6.out.v.cells
        rw [Hwv'.out] at c2
        clear hk hm hig hdel hws jc
        go_upto_region 17 with fail
        refine wp_region_line [(0,0),(1,0),(2,0),(3,0),(4,1),(5,0),(6,0),(7,0),(8,1),(9,2),(10,3),(11,0)] (by kernel_rfl) (by kernel_rfl) (Ext w6) (fun _ _ h k => h.trans k) (Ext.refl _) ?_
        iterate 8
          first
            | refine Fx.skip rfl rfl (by simp only [List.set_cons_zero, List.set_cons_succ]; rfl) ?_
            | (with_reducible refine Fx.lab0 ?_
               first
                 | refine Fx.moveT rfl rfl rfl (by simp only [List.set_cons_zero, List.set_cons_succ]; rfl) ?_
                 | refine Fx.assignT rfl rfl rfl (by simp only [List.set_cons_zero, List.set_cons_succ]; rfl) ?_
                 | refine Fx.pure_ rfl rfl (fun _ => by go_simp; first | done | rfl) (by simp only [List.set_cons_zero, List.set_cons_succ]; rfl) ?_)
            | (with_reducible refine Fx.lab1 ?_
               refine Fx.look rfl rfl (fun w' hC => by obtain ⟨hc, hf, hl⟩ := Ext.cells hC; go_simp; rfl) (by simp only [List.set_cons_zero, List.set_cons_succ]; rfl) ?_)
        refine Fx.look rfl rfl (op_load_Ms' (m := m) jl y1 y2 y3 rfl) (by simp only [List.set_cons_zero, List.set_cons_succ]; rfl) ?_
        refine Fx.mkSl 1 1 (fun B w' => MsL w' (.slice (some ⟨B, 0, none⟩) 1 1) [m]) (fun B _ _ h k => h.ext k) rfl rfl (fun w' hC => stepAt_lit1 hC m rfl) (fun B2 => ?_)
        simp only [List.set_cons_zero, List.set_cons_succ]
        refine Fx.eff (fun v' w' => RfG w r wv bv wv' bv ρ v' (D.take j ++ [m]) w') (fun v _ _ h k => h.ext k) rfl rfl
          (fun w' hC => stepAt_mono (stepAt_append (Ext.refl w') (HG6.out.n.ext hC.1) hC.2 (by rw [List.length_take]; have := HDl.out; simp; omega) rfl rfl) (fun v' w'' hh => (HG6.out.ext hC.1).putN hh.1 hh.2.1 hh.2.2)) (fun nv' => ?_)
        simp only [List.set_cons_zero, List.set_cons_succ]
        first
          | refine Fx.skip rfl rfl (by simp only [List.set_cons_zero, List.set_cons_succ]; rfl) ?_
          | (with_reducible refine Fx.lab0 ?_
             first
               | refine Fx.moveT rfl rfl rfl (by simp only [List.set_cons_zero, List.set_cons_succ]; rfl) ?_
               | refine Fx.assignT rfl rfl rfl (by simp only [List.set_cons_zero, List.set_cons_succ]; rfl) ?_
               | refine Fx.pure_ rfl rfl (fun _ => by go_simp; first | done | rfl) (by simp only [List.set_cons_zero, List.set_cons_succ]; rfl) ?_)
          | (with_reducible refine Fx.lab1 ?_
             refine Fx.look rfl rfl (fun w' hC => by obtain ⟨hc, hf, hl⟩ := Ext.cells hC; go_simp; rfl) (by simp only [List.set_cons_zero, List.set_cons_succ]; rfl) ?_)
        refine Fx.done (fun w7 hC => ?_)
        have HG7 := Lib.hid hC
        clear hC y1 y2 y3 jl c2 lr HG6
        obtain ⟨-, -, c2, -, lr⟩ := HG7.out.v.cells
        have f2 := HG7.out.v.o.free 2
        rw [Hwv'.out] at c2
        go_upto_region 18 with fail
        refine wp_region_line [(0,0),(1,0),(2,0),(3,0),(4,1),(5,0),(6,3),(7,0),(8,0),(9,3)] (by kernel_rfl) (by kernel_rfl) (Ext w7) (fun _ _ h k => h.trans k) (Ext.refl _) ?_
        iterate 6
          first
            | refine Fx.skip rfl rfl (by simp only [List.set_cons_zero, List.set_cons_succ]; rfl) ?_
            | (with_reducible refine Fx.lab0 ?_
               first
                 | refine Fx.moveT rfl rfl rfl (by simp only [List.set_cons_zero, List.set_cons_succ]; rfl) ?_
                 | refine Fx.assignT rfl rfl rfl (by simp only [List.set_cons_zero, List.set_cons_succ]; rfl) ?_
                 | refine Fx.pure_ rfl rfl (fun _ => by go_simp; first | done | rfl) (by simp only [List.set_cons_zero, List.set_cons_succ]; rfl) ?_)
            | (with_reducible refine Fx.lab1 ?_
               refine Fx.look rfl rfl (fun w' hC => by obtain ⟨hc, hf, hl⟩ := Ext.cells hC; go_simp; rfl) (by simp only [List.set_cons_zero, List.set_cons_succ]; rfl) ?_)
        refine Fx.eff (fun v' w' => OwnNb w' v' ((stepD ρ).wt.map nbOf) ∧ Ext w7 w' ∧ ∀ c, v'.ownBlock = some c → w7.heap.size ≤ c) (fun v _ _ h k => ⟨h.1.ext k, h.2.1.trans k, h.2.2⟩) rfl rfl (fun w' hC => ?_) (fun v4 => ?_)
        · unfold stepAt
          rw [show (execOp _ _).run Try.prog w' = .ok (.enter 34 #[.slice (some ⟨jb, joff, none⟩) n' wcap', .int .i64 i]) w' from by first | (go_simp; done) | (go_simp; rfl)]
          have h0 := (HG7.out.v.w_.ext hC).sl Nb.len
          rw [Hwv'.out] at h0
          refine (without_ref (ρ.wt.map nbOf) h0 (by rw [List.length_map]; exact Nat.le_trans Hρl.out (by decide)) i (by rw [List.length_map, Hn'.out]; exact Hil.out)).mono (fun e w'' hh => ?_)
          obtain ⟨v', rfl, h1, h2, h3⟩ := hh
          refine ⟨v', rfl, ?_, hC.trans h2, fun c hc => Nat.le_trans hC.size (h3 c hc)⟩
          have : (stepD ρ).wt = ρ.wt.eraseIdx i := by
            show kdel (ρ.ep, ρ.nx) ρ.wt = _
            rw [HρE.out, Hnx'.out]; exact Hdel.out
          rw [this, map_eraseIdx']; exact h1
        simp only [List.set_cons_zero, List.set_cons_succ]
        iterate 2
          first
            | refine Fx.skip rfl rfl (by simp only [List.set_cons_zero, List.set_cons_succ]; rfl) ?_
            | (with_reducible refine Fx.lab0 ?_
               first
                 | refine Fx.moveT rfl rfl rfl (by simp only [List.set_cons_zero, List.set_cons_succ]; rfl) ?_
                 | refine Fx.assignT rfl rfl rfl (by simp only [List.set_cons_zero, List.set_cons_succ]; rfl) ?_
                 | refine Fx.pure_ rfl rfl (fun _ => by go_simp; first | done | rfl) (by simp only [List.set_cons_zero, List.set_cons_succ]; rfl) ?_)
            | (with_reducible refine Fx.lab1 ?_
               refine Fx.look rfl rfl (fun w' hC => by obtain ⟨hc, hf, hl⟩ := Ext.cells hC; go_simp; rfl) (by simp only [List.set_cons_zero, List.set_cons_succ]; rfl) ?_)
        refine Fx.store ⟨r, 2, none⟩ v4 rfl rfl (fun w' hC => by
          obtain ⟨hc, hf, hl⟩ := hC.2.1.cells
          have e1 := (hc r 2 lr).trans c2
          have e2 := (hf r 2 lr).trans f2
          obtain ⟨A3, n3, c3', rfl⟩ : ∃ A n cap, v4 = .slice A n cap := by obtain ⟨A, cap, e, _⟩ := hC.1.val; exact ⟨_, _, _, e⟩
          clear hc hf hl hC
          go_simp) ?_
        refine Fx.done (fun w8 hC => ?_)
        obtain ⟨wy, ⟨g1, g2, g3⟩, g4⟩ := hC
        have HG8 := Lib.hid (HG7.out.setW g1 (g2.mods _) (fun c hc => .inr (g3 c hc)) g4)
        clear g1 g2 g3 g4 c2 f2 lr HG7
        obtain ⟨-, c1, -, -, lr⟩ := HG8.out.v.cells
        have f1 := HG8.out.v.o.free 1
        simp only [Hnx'.out] at c1
        go_upto_region 19 with fail
        refine wp_region_line [(0,0),(1,0),(2,0),(3,0),(4,1),(5,0),(6,0),(7,0),(8,3)] (by kernel_rfl) (by kernel_rfl) (Ext w8) (fun _ _ h k => h.trans k) (Ext.refl _) ?_
        iterate 8
          first
            | refine Fx.skip rfl rfl (by simp only [List.set_cons_zero, List.set_cons_succ]; rfl) ?_
            | (with_reducible refine Fx.lab0 ?_
               first
                 | refine Fx.moveT rfl rfl rfl (by simp only [List.set_cons_zero, List.set_cons_succ]; rfl) ?_
                 | refine Fx.assignT rfl rfl rfl (by simp only [List.set_cons_zero, List.set_cons_succ]; rfl) ?_
                 | refine Fx.pure_ rfl rfl (fun _ => by go_simp; first | done | rfl) (by simp only [List.set_cons_zero, List.set_cons_succ]; rfl) ?_)
            | (with_reducible refine Fx.lab1 ?_
               refine Fx.look rfl rfl (fun w' hC => by obtain ⟨hc, hf, hl⟩ := Ext.cells hC; go_simp; rfl) (by simp only [List.set_cons_zero, List.set_cons_succ]; rfl) ?_)
        refine Fx.store ⟨r, 1, none⟩ (.int .u32 (IntKind.u32.wrap (nx' + 1))) rfl rfl (fun w' hC => by
          obtain ⟨hc, hf, hl⟩ := hC.cells
          have e1 := (hc r 1 lr).trans c1
          have e2 := (hf r 1 lr).trans f1
          clear hc hf hl hC
          go_simp) ?_
        refine Fx.done (fun w9 hC => ?_)
        obtain ⟨wy, g1, g2⟩ := hC
        have HG9 : Hid (RfG w r wv bv v4 bv (stK τ (j + 1)) nv' (D.take (j + 1)) w9) := by
          have h1 := (HG8.out.ext g1).setN (IntKind.u32.wrap (nx' + 1)) g2
          have e : stK τ (j + 1) = { ρ with nx := IntKind.u32.wrap (nx' + 1), wt := (stepD ρ).wt } := by
            show stepD (stK τ j) = _
            rw [Hρ.out]
            show ({ ρ with nx := IntKind.u32.wrap (ρ.nx + 1), wt := (stepD ρ).wt } : FwSt) = _
            rw [Hnx'.out]
          rw [e, HDm.out]
          exact Lib.hid h1
        clear g1 g2 c1 f1 lr HG8
        obtain ⟨yA, ycap, hyv, -⟩ := HG9.out.n.val
        have HLv : Hid (lenV nv' = j + 1) := Lib.hid (by rw [hyv]; show (D.take (j + 1)).length = j + 1; rw [List.length_take]; omega)
        clear hyv
        go_wp2
        go_roundw
        case rel => exact ⟨j + 1, nv', v4, rfl, by omega, HG9⟩
        case measure => rw [HLv0.out, HLv.out]; omega
      · have hje : j = D.length := by omega
        subst hje
        have hk := HDend.out
        rw [Hρ.out, Hnx'.out] at hk
        have hz0 := posZ_none hk
        rw [Hz'.out] at hz0
        subst hz0
        have hGt := HG6.out
        rw [List.take_length] at hGt
        have HGt := Lib.hid hGt
        clear hk hGt
        go_wp2
        go_ret2
        obtain ⟨k1, k2, k3⟩ := HK2.out
        rw [k1, k2, k3, Hρ.out]
        exact ⟨_, _, _, rfl, HGt.out⟩
end Go.Proofs.Ytokljdkeegdniaa
