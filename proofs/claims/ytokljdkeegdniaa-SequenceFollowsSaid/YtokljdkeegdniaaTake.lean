/-
  sequence.Follower: take.
-/
import Derived.Test.YtokljdkeegdniaaTake0
namespace Go.Proofs.Ytokljdkeegdniaa
open Go.RowKit
attribute [local go_sem] Oper.semAt_some

theorem run_alloc_sl (w : World) : (Instr.alloc 40 true (.tuple #[])).run Try.prog w = .ok (.pointer (some ⟨w.heap.size, 0, none⟩)) (w.alloc (.cells #[.slice none 0 0] 40)) := by
  simp [go_sem, Try.zeroValue40]
theorem stepAt_alloc_sl {a : Act} {d : Option Tmp} {t : TypeId} {s : String} {af : Array Edge} {g : Option (Nat × Bool)} {W w : World} (hC : Ext W w) : stepAt Try.prog ⟨d, .alloc 40, t, s, af, g⟩ a w (fun u w' => ∃ b, u = .pointer (some ⟨b, 0, none⟩) ∧ Ext w w' ∧ W.heap.size ≤ b ∧ Obj_ w' b 1 (fun _ => .slice none 0 0)) := by
  unfold stepAt
  simp only [execOp, Sem.run_bind, run_alloc_sl, Result.andThen_ok]
  exact ⟨_, rfl, Ext.alloc _ _, hC.size, Obj_.new w 40 #[.slice none 0 0] (fun _ => .slice none 0 0) (by intro i hi; simp at hi; subst hi; rfl)⟩
/-- At the loop's head. -/
structure TkH (w : World) (b mw mb Bb B5 : Nat) (rs : List Nat) (σ : FwSt) (N : List Ms) (nv : Value) (W : World) : Prop where
  fw : FwAt W b mw mb σ
  bb : Obj_ W Bb 1 (fun _ => .pointer (some ⟨b, 0, none⟩))
  b5 : Obj_ W B5 1 (fun _ => nv)
  own : OwnMs W nv N
  nf : ∀ x, nv.ownBlock = some x → w.heap.size ≤ x ∧ x ≠ Bb ∧ x ≠ B5 ∧ x ∉ rs
  kp : ∀ r ∈ rs, W.heap[r]? = some (.deferred (some [])) ∧ w.heap.size ≤ r ∧ r ≠ Bb ∧ r ≠ B5
  nd : rs.Nodup
  e : Mods (FF b mw mb) w W
theorem TkH.ext' {w W W' : World} {b mw mb Bb B5 : Nat} {rs : List Nat} {σ : FwSt} {N : List Ms} {nv : Value} (h : TkH w b mw mb Bb B5 rs σ N nv W) (he : Ext W W') : TkH w b mw mb Bb B5 rs σ N nv W' :=
  ⟨h.fw.ext he, h.bb.ext he, h.b5.ext he, h.own.ext he, h.nf, fun r hr => ⟨(he.blk (Array.getElem?_eq_some_iff.1 (h.kp r hr).1).1).trans (h.kp r hr).1, (h.kp r hr).2⟩, h.nd, h.e.then_ he⟩
theorem TkH.fw' {w W W' : World} {b mw mb Bb B5 : Nat} {rs : List Nat} {σ σ' : FwSt} {N : List Ms} {nv : Value} (h : TkH w b mw mb Bb B5 rs σ N nv W) (hff : ∀ x, FF b mw mb x → x < w.heap.size) (hb : w.heap.size ≤ Bb) (h5 : w.heap.size ≤ B5) (hf : FwAt W' b mw mb σ') (hm : Mods (FF b mw mb) W W') : TkH w b mw mb Bb B5 rs σ' N nv W' :=
  ⟨hf, h.bb.mods hm (fun hs => by have := hff _ hs; omega), h.b5.mods hm (fun hs => by have := hff _ hs; omega), h.own.mods hm (fun x hx hs => by have := hff _ hs; have := (h.nf x hx).1; omega), h.nf, fun r hr => ⟨(hm.block r (Array.getElem?_eq_some_iff.1 (h.kp r hr).1).1 (fun hs => by have := hff _ hs; have := (h.kp r hr).2.1; omega)).trans (h.kp r hr).1, (h.kp r hr).2⟩, h.nd, h.e.trans hm (fun x _ hs => hs)⟩
structure LpA (a : Act) (A : Option Addr) (n cap Bb B5 k : Nat) (rs : List Nat) : Prop where
  s : a.tmps.size = 73
  t2 : a.tmps.getD 2 undef = .pointer (some ⟨Bb, 0, none⟩)
  t5 : a.tmps.getD 5 undef = .pointer (some ⟨B5, 0, none⟩)
  t13 : a.tmps.getD 13 undef = .slice A n cap
  t14 : a.tmps.getD 14 undef = .int .i64 n
  t15 : a.tmps.getD 15 undef = .int .i64 k
  d : a.defers = rs.map mark
def TkI (w w0 : World) (b mw mb Bb B5 Bq : Nat) (rs : List Nat) (τ : FwSt) (L N : List Ms) (k : Nat) (T : Nat → Prop) (W : World) : Prop :=
  ∃ nv, TkS w w0 b mw mb Bb B5 rs (stK τ k) (N ++ L.take k) nv W ∧ (∀ x, T x ↔ TkT b mw B5 nv x) ∧ Obj_ W Bq 1 (fun _ => .pointer (some ⟨b, 0, none⟩)) ∧ nv.ownBlock ≠ some Bq
theorem TkI.mods {w w0 : World} {b mw mb Bb B5 Bq : Nat} {rs : List Nat} {τ : FwSt} {L N : List Ms} {k : Nat} {T S : Nat → Prop} {W W' : World} (hP : TkP w w0 b mw mb Bb B5 rs) (hq : Bq < w0.heap.size) (h : TkI w w0 b mw mb Bb B5 Bq rs τ L N k T W) (hm : Mods S W W') (hS : ∀ x, S x → w0.heap.size ≤ x ∧ ¬ T x) :
    TkI w w0 b mw mb Bb B5 Bq rs τ L N k T W' := by
  obtain ⟨nv, h1, h2, h3, h4⟩ := h
  exact ⟨nv, h1.mods hP hm (fun x hx => ⟨(hS x hx).1, fun ht => (hS x hx).2 ((h2 x).2 ht)⟩), h2, h3.mods hm (fun hs => by have := (hS _ hs).1; omega), h4⟩
def TkA (w w0 : World) (b mw mb Bb B5 Bq : Nat) (rs : List Nat) (τ : FwSt) (L N : List Ms) (k : Nat) (T : Nat → Prop) (a' : Act) (W : World) : Prop :=
  TkI w w0 b mw mb Bb B5 Bq rs τ L N k T W ∧ ∃ B11 B12, (w0.heap.size + 2 ≤ B11 ∧ ¬ T B11) ∧ (w0.heap.size + 2 ≤ B12 ∧ ¬ T B12) ∧ Obj_ W B11 2 (plF (τ.ep, (stK τ k).nx)) ∧ Obj_ W B12 3 (msF (L.getD k ms0)) ∧
    (a'.tmps.size = 73 ∧ a'.tmps.getD 2 undef = .pointer (some ⟨Bb, 0, none⟩) ∧ a'.tmps.getD 5 undef = .pointer (some ⟨B5, 0, none⟩) ∧ a'.tmps.getD 11 undef = .pointer (some ⟨B11, 0, none⟩) ∧ a'.tmps.getD 12 undef = .pointer (some ⟨B12, 0, none⟩) ∧ a'.defers = [])
def TakeR (w : World) (b mw mb : Nat) (σ : FwSt) (l : List Nb) (e : Ending) (w' : World) : Prop :=
  ∃ nv, e = .returned nv ∧ OwnMs w' nv (takeL σ l) ∧ FwAt w' b mw mb (takeS σ l) ∧ Mods (FF b mw mb) w w' ∧ ∀ x, nv.ownBlock = some x → w.heap.size ≤ x

set_option maxRecDepth 100000 in
set_option maxHeartbeats 6400000 in
theorem take_in {w : World} {b mw mb : Nat} {σ : FwSt} (h : FwAt w b mw mb σ) (v : Value) (l : List Nb) (hl : NbL w v l) (hv : ∀ x, v.ownBlock = some x → ¬ FF b mw mb x) (hlen : σ.wt.length + l.length ≤ 1000000) :
    CallsIn Fence.wide 5 Try.prog 28 #[.pointer (some ⟨b, 0, none⟩), v] w (TakeR w b mw mb σ l) := by
  have hF := wideF_wide
  have HL := Lib.hid hl
  obtain ⟨A, cap, rfl, -⟩ := hl.val
  have E1 := Ext.alloc w (.cells #[.pointer (some ⟨b, 0, none⟩)] 25)
  have o1 := Obj_.new w 25 #[.pointer (some ⟨b, 0, none⟩)] (fun _ => .pointer (some ⟨b, 0, none⟩)) (by intro i hi; simp at hi; subst hi; rfl)
  have H := Lib.hid (h.ext E1)
  have HE := Lib.hid E1
  have HB := Lib.hid o1
  have HFF := Lib.hid (fun x (hx : FF b mw mb x) => h.lt hx)
  have HV := Lib.hid hv
  have Hlen := Lib.hid hlen
  have hln : l.length ≤ 1000000 := by omega
  obtain ⟨n, hn⟩ : ∃ n, l.length = n := ⟨_, rfl⟩
  rw [hn] at hln ⊢
  have Hn := Lib.hid hn
  clear hl h hv hlen E1 o1 hn
  refine callsIn_of_wp_marks Try.func28 rfl trivial ?_
  simp only [Try.ntmps28, List.size_toArray, List.length_cons, List.length_nil, Nat.reduceAdd, Nat.reduceSub, Array.replicate_succ, Array.replicate_zero, List.push_toArray, List.append_toArray, List.nil_append, List.cons_append]
  generalize hW : w.alloc (.cells #[.pointer (some ⟨b, 0, none⟩)] 25) = W at *
  gi_upto_region 1 with fail
  refine wpIn_region_line hF [(0,2)] (by kernel_rfl) (by kernel_rfl) (Ext W) (fun _ _ h k => h.trans k) (Ext.refl _) ?_
  refine Fx.mkPtr (fun B w' => W.heap.size ≤ B ∧ Obj_ w' B 1 (fun _ => .slice none 0 0)) (fun B _ _ h k => ⟨h.1, h.2.ext k⟩) rfl rfl (fun w' hC => stepAt_alloc_sl hC) (fun B5 => ?_)
  simp only [List.set_cons_zero, List.set_cons_succ]
  refine Fx.done (fun w1 hC => ?_)
  obtain ⟨hC1, hB5, hO5⟩ := hC
  have hbl := HB.out.lt
  have hb5 : w.heap.size ≤ B5 := by omega
  have hne : w.heap.size ≠ B5 := by omega
  have HH : Hid (TkH w b mw mb w.heap.size B5 [] σ [] (.slice none 0 0) w1) := Lib.hid ⟨H.out.ext hC1, HB.out.ext hC1, hO5, Own.nil, fun x hx => by simp [Value.ownBlock] at hx, fun r hr => by simp at hr, List.nodup_nil, (HE.out.trans hC1).mods _⟩
  clear hC1 hB5 hO5 hbl
  gi_wp2
  refine wpIn_loop (fun a W => ∃ k nv rs, k ≤ n ∧ LpA a A n cap w.heap.size B5 k rs ∧ TkH w b mw mb w.heap.size B5 rs (takeS σ (l.take k)) (takeL σ (l.take k)) nv W) (fun a _ => n - (intOf (a.tmps.getD 15 undef)).toNat) ?h0 ?round
  case h0 => exact ⟨0, _, [], Nat.zero_le _, ⟨rfl, rfl, rfl, rfl, rfl, rfl, rfl⟩, by simpa [takeS, takeL] using HH.out⟩
  case round =>
    clear HH H HB HE
    rintro ⟨tm, df⟩ wr ⟨k, nv, rs, hk, hA, hH⟩
    obtain ⟨hs, h2, h5, h13, h14, h15, hd⟩ := hA
    simp only at hs h2 h5 h13 h14 h15 hd
    have hfr := fr73 hs
    obtain ⟨u, hu⟩ : ∃ u : Nat → Value, (fun i => tm.getD i undef) = u := ⟨_, rfl⟩
    have g : ∀ i, tm.getD i undef = u i := fun i => by rw [← hu]
    rw [g] at h2 h5 h13 h14 h15
    rw [hu] at hfr
    have Hmu : Hid (n - (intOf ((Act.mk tm df).tmps.getD 15 undef)).toNat = n - k) := Lib.hid (by show n - (intOf (tm.getD 15 undef)).toNat = _; rw [g, h15]; simp [intOf])
    rw [Hmu.out]
    clear hs hu g Hmu
    subst hfr
    subst hd
    have HH := Lib.hid hH
    clear hH
    simp only [frN, Nat.reduceAdd, h2, h5, h13, h14, h15]
    clear h2 h5 h13 h14 h15
    by_cases hlt : k < n
    · have hwk : IntKind.i64.wrap ((k : Int) + 1) = (k : Int) + 1 := IntWalk.i64_in _ ⟨by omega, by omega⟩
      have hSl := HL.out.mods HH.out.e HV.out
      rw [Hn.out] at hSl
      obtain ⟨jb, joff, rfl, hjbl, hN⟩ := Sl.atN hSl (by rw [Hn.out]; exact hlt)
      have htk : l.take (k + 1) = l.take k ++ [l[k]'(by rw [Hn.out]; exact hlt)] := List.take_succ_eq_append_getElem (by rw [Hn.out]; exact hlt)
      obtain ⟨x, hx⟩ : ∃ x, l[k]'(by rw [Hn.out]; exact hlt) = x := ⟨_, rfl⟩
      rw [hx] at hN htk
      have Htk := Lib.hid htk
      obtain ⟨σk, hσk⟩ : ∃ σk, takeS σ (l.take k) = σk := ⟨_, rfl⟩
      obtain ⟨N, hNN⟩ : ∃ N, takeL σ (l.take k) = N := ⟨_, rfl⟩
      have hsum := takeL_sum (l.take k) σ
      rw [hσk, hNN] at hsum HH
      have hsum2 : N.length + σk.wt.length ≤ 1000000 := by have := Hlen.out; rw [List.length_take] at hsum; omega
      have Hσk := Lib.hid hσk
      have HN := Lib.hid hNN
      have Hsum := Lib.hid hsum2
      clear hSl htk hx hσk hNN hsum hsum2
      gi_upto_region 4 with fail
      refine wpIn_region_line hF [(0,0),(1,1),(2,2),(3,3)] (by kernel_rfl) (by kernel_rfl) (Ext wr) (fun _ _ h k => h.trans k) (Ext.refl _) ?_
      first
        | refine Fx.skip rfl rfl (by simp only [List.set_cons_zero, List.set_cons_succ]; rfl) ?_
        | (with_reducible refine Fx.lab0 ?_
           first
             | refine Fx.moveT rfl rfl rfl (by simp only [List.set_cons_zero, List.set_cons_succ]; rfl) ?_
             | refine Fx.assignT rfl rfl rfl (by simp only [List.set_cons_zero, List.set_cons_succ]; rfl) ?_
             | refine Fx.pure_ rfl rfl (fun _ => by go_simp; first | done | rfl) (by simp only [List.set_cons_zero, List.set_cons_succ]; rfl) ?_)
        | (with_reducible refine Fx.lab1 ?_
           refine Fx.look rfl rfl (fun w' hC => by obtain ⟨hc, hf, hl⟩ := Ext.cells hC; go_simp; rfl) (by simp only [List.set_cons_zero, List.set_cons_succ]; rfl) ?_)
      refine Fx.look rfl rfl (op_load_Nb' (m := x) hjbl hN rfl) (by simp only [List.set_cons_zero, List.set_cons_succ]; rfl) ?_
      refine Fx.mkPtr (fun B w' => wr.heap.size ≤ B ∧ Obj_ w' B 5 (nbF nb0)) (fun B _ _ h k => ⟨h.1, h.2.ext k⟩) rfl rfl (fun w' hC => stepAt_alloc_Nb hC) (fun B7 => ?_)
      simp only [List.set_cons_zero, List.set_cons_succ]
      refine Fx.eff0 (NbPre wr B7 x) (nbPre_stable _ _ _) rfl rfl (fun w' hC => stepAt_mono (stepAt_store_Nb hC.1 hC.2.1 hC.2.2 x rfl rfl) (fun _ w'' h => ⟨h.1, hC.2.1, h.2⟩)) ?_
      refine Fx.done (fun w2 hC => ?_)
      obtain ⟨hC2, -, hO7⟩ := hC
      have HH2 := Lib.hid (HH.out.ext' hC2)
      have n0 := hO7.nb.c0
      have n1 := hO7.nb.c1
      have nl := hO7.lt
      have HO7 := Lib.hid hO7
      simp only [Nat.zero_add] at n1
      clear hC2 hO7 hN hjbl HH
      gi_upto_region 5 with fail
      refine wpIn_region_line hF [(0,0),(1,1),(2,0),(3,1),(4,0),(5,2),(6,3)] (by kernel_rfl) (by kernel_rfl) (Ext w2) (fun _ _ h k => h.trans k) (Ext.refl _) ?_
      iterate 4
        first
          | refine Fx.skip rfl rfl (by simp only [List.set_cons_zero, List.set_cons_succ]; rfl) ?_
          | (with_reducible refine Fx.lab0 ?_
             first
               | refine Fx.moveT rfl rfl rfl (by simp only [List.set_cons_zero, List.set_cons_succ]; rfl) ?_
               | refine Fx.assignT rfl rfl rfl (by simp only [List.set_cons_zero, List.set_cons_succ]; rfl) ?_
               | refine Fx.pure_ rfl rfl (fun _ => by go_simp; first | done | rfl) (by simp only [List.set_cons_zero, List.set_cons_succ]; rfl) ?_)
          | (with_reducible refine Fx.lab1 ?_
             refine Fx.look rfl rfl (fun w' hC => by obtain ⟨hc, hf, hl⟩ := Ext.cells hC; go_simp; rfl) (by simp only [List.set_cons_zero, List.set_cons_succ]; rfl) ?_)
      refine Fx.pure_ (v := plV (x.e, x.n)) rfl rfl (fun _ => by unfold plV; first | (go_simp; done) | (go_simp; rfl)) (by simp only [List.set_cons_zero, List.set_cons_succ]; rfl) ?_
      refine Fx.mkPtr (fun B w' => w2.heap.size ≤ B ∧ Obj_ w' B 2 (plF (0, 0))) (fun B _ _ h k => ⟨h.1, h.2.ext k⟩) rfl rfl (fun w' hC => stepAt_alloc_Pl hC) (fun B8 => ?_)
      simp only [List.set_cons_zero, List.set_cons_succ]
      refine Fx.eff0 (PlPre w2 B8 (x.e, x.n)) (plPre_stable _ _ _) rfl rfl (fun w' hC => stepAt_mono (stepAt_store_Pl hC.1 hC.2.1 hC.2.2 (x.e, x.n) rfl rfl) (fun _ w'' h => ⟨h.1, hC.2.1, h.2⟩)) ?_
      refine Fx.done (fun w3 hC => ?_)
      obtain ⟨hC3, -, hO8⟩ := hC
      have HH3 := Lib.hid (HH2.out.ext' hC3)
      have HO73 := Lib.hid (HO7.out.ext hC3)
      have HO8 := Lib.hid hO8
      have p0 := hO8.cell 0 (by decide)
      have p1 := hO8.cell 1 (by decide)
      have pl := hO8.lt
      simp only [plF, List.getD_cons_zero, List.getD_cons_succ] at p0 p1
      have hcb := HH3.out.bb.cell 0 (by decide)
      have hlb := HH3.out.bb.lt
      obtain ⟨c0, c1, c2, c3, lb⟩ := HH3.out.fw.cells
      obtain ⟨o, ho⟩ : ∃ o, kfind (x.e, x.n) σk.wt = o := ⟨_, rfl⟩
      have Ho := Lib.hid ho
      clear hC3 hO8 HH2 HO7 n0 n1 nl c0 c1 c3 ho
      gi_upto_region 6 with fail
      refine wpIn_region_plan hF [(0,1),(1,0),(2,0),(3,1),(4,1),(5,1),(6,0),(7,0),(8,0),(9,2),(10,3),(11,0)] (by kernel_rfl) (by kernel_rfl) (by kernel_rfl) (Ext w3) (fun _ _ h k => h.trans k) (Ext.drawn _ _) ?_
      iterate 4
        first
          | refine Fx.skip rfl rfl (by simp only [List.set_cons_zero, List.set_cons_succ]; rfl) ?_
          | (with_reducible refine Fx.lab0 ?_
             first
               | refine Fx.moveT rfl rfl rfl (by simp only [List.set_cons_zero, List.set_cons_succ]; rfl) ?_
               | refine Fx.assignT rfl rfl rfl (by simp only [List.set_cons_zero, List.set_cons_succ]; rfl) ?_
               | refine Fx.pure_ rfl rfl (fun _ => by go_simp; first | done | rfl) (by simp only [List.set_cons_zero, List.set_cons_succ]; rfl) ?_)
          | (with_reducible refine Fx.lab1 ?_
             refine Fx.look rfl rfl (fun w' hC => by obtain ⟨hc, hf, hl⟩ := Ext.cells hC; go_simp; rfl) (by simp only [List.set_cons_zero, List.set_cons_succ]; rfl) ?_)
      refine Fx.look rfl rfl (op_load_Pl' (f := x.e) (c := x.n) pl p0 p1 rfl) (by simp only [List.set_cons_zero, List.set_cons_succ]; rfl) ?_
      refine Fx.look (v := .tuple #[(o.getD ms0).val, .bool o.isSome]) rfl rfl (op_lookW (k := (x.e, x.n)) HH3.out.fw.wm Ho.out rfl rfl) (by simp only [List.set_cons_zero, List.set_cons_succ]; rfl) ?_
      iterate 3
        first
          | refine Fx.skip rfl rfl (by simp only [List.set_cons_zero, List.set_cons_succ]; rfl) ?_
          | (with_reducible refine Fx.lab0 ?_
             first
               | refine Fx.moveT rfl rfl rfl (by simp only [List.set_cons_zero, List.set_cons_succ]; rfl) ?_
               | refine Fx.assignT rfl rfl rfl (by simp only [List.set_cons_zero, List.set_cons_succ]; rfl) ?_
               | refine Fx.pure_ rfl rfl (fun _ => by go_simp; first | done | rfl) (by simp only [List.set_cons_zero, List.set_cons_succ]; rfl) ?_)
          | (with_reducible refine Fx.lab1 ?_
             refine Fx.look rfl rfl (fun w' hC => by obtain ⟨hc, hf, hl⟩ := Ext.cells hC; go_simp; rfl) (by simp only [List.set_cons_zero, List.set_cons_succ]; rfl) ?_)
      refine Fx.mkPtr (fun B w' => w3.heap.size ≤ B ∧ Obj_ w' B 3 (msF ms0)) (fun B _ _ h k => ⟨h.1, h.2.ext k⟩) rfl rfl (fun w' hC => stepAt_alloc_Ms hC) (fun B9 => ?_)
      simp only [List.set_cons_zero, List.set_cons_succ]
      refine Fx.eff0 (MsPre w3 B9 (o.getD ms0)) (msPre_stable _ _ _) rfl rfl (fun w' hC => stepAt_mono (stepAt_store_Ms hC.1 hC.2.1 hC.2.2 (o.getD ms0) rfl rfl) (fun _ w'' h => ⟨h.1, hC.2.1, h.2⟩)) ?_
      first
        | refine Fx.skip rfl rfl (by simp only [List.set_cons_zero, List.set_cons_succ]; rfl) ?_
        | (with_reducible refine Fx.lab0 ?_
           first
             | refine Fx.moveT rfl rfl rfl (by simp only [List.set_cons_zero, List.set_cons_succ]; rfl) ?_
             | refine Fx.assignT rfl rfl rfl (by simp only [List.set_cons_zero, List.set_cons_succ]; rfl) ?_
             | refine Fx.pure_ rfl rfl (fun _ => by go_simp; first | done | rfl) (by simp only [List.set_cons_zero, List.set_cons_succ]; rfl) ?_)
        | (with_reducible refine Fx.lab1 ?_
           refine Fx.look rfl rfl (fun w' hC => by obtain ⟨hc, hf, hl⟩ := Ext.cells hC; go_simp; rfl) (by simp only [List.set_cons_zero, List.set_cons_succ]; rfl) ?_)
      refine Fx.done (fun w4 hC => ?_)
      obtain ⟨hC4, -, -⟩ := hC
      have HH4 := Lib.hid (HH3.out.ext' hC4)
      have HO74 := Lib.hid (HO73.out.ext hC4)
      have HO84 := Lib.hid (HO8.out.ext hC4)
      clear hC4 p0 p1 pl hcb hlb c2 lb HH3 HO73 HO8
      have n0 := HO74.out.nb.c0
      have n1 := HO74.out.nb.c1
      have nl := HO74.out.lt
      simp only [Nat.zero_add] at n1
      have hcb := HH4.out.bb.cell 0 (by decide)
      have hlb := HH4.out.bb.lt
      obtain ⟨c0, c1, c2, c3, lb⟩ := HH4.out.fw.cells
      clear c0 c2 c3
      by_cases hput : o.isSome = false ∧ σk.nx ≤ x.n
      · obtain ⟨ho1, ho2⟩ := hput
        have hτ : putW σk x = { σk with wt := kput (x.e, x.n) x.m σk.wt } := by unfold putW; rw [Ho.out, ho1]; simp [ho2]
        have ht := putW_len σk x
        rw [ho1]
        have ho2d : decide (σk.nx ≤ x.n) = true := by simpa using ho2
        gi_upto_region 7 with fail
        refine wpIn_region_plan hF [(0,0),(1,0),(2,0),(3,0),(4,1),(5,1),(6,0),(7,0),(8,1),(9,0),(10,0)] (by kernel_rfl) (by kernel_rfl) (by kernel_rfl) (Ext w4) (fun _ _ h k => h.trans k) (Ext.drawn _ _) ?_
        iterate 11
          first
            | refine Fx.skip rfl rfl (by simp only [List.set_cons_zero, List.set_cons_succ]; rfl) ?_
            | (with_reducible refine Fx.lab0 ?_
               first
                 | refine Fx.moveT rfl rfl rfl (by simp only [List.set_cons_zero, List.set_cons_succ]; rfl) ?_
                 | refine Fx.assignT rfl rfl rfl (by simp only [List.set_cons_zero, List.set_cons_succ]; rfl) ?_
                 | refine Fx.pure_ rfl rfl (fun _ => by go_simp; first | done | rfl) (by simp only [List.set_cons_zero, List.set_cons_succ]; rfl) ?_)
            | (with_reducible refine Fx.lab1 ?_
               refine Fx.look rfl rfl (fun w' hC => by obtain ⟨hc, hf, hl⟩ := Ext.cells hC; go_simp; rfl) (by simp only [List.set_cons_zero, List.set_cons_succ]; rfl) ?_)
        refine Fx.done (fun w5 hC => ?_)
        have HH5 := Lib.hid (HH4.out.ext' hC)
        have HO75 := Lib.hid (HO74.out.ext hC)
        have HO85 := Lib.hid (HO84.out.ext hC)
        clear hC n0 n1 nl hcb hlb c1 lb HH4 HO74 HO84 ho2d ho2
        have m0 := HO75.out.nb.ms
        obtain ⟨m0, m1, m2⟩ := m0
        have nl := HO75.out.lt
        have p0 := HO85.out.cell 0 (by decide)
        have p1 := HO85.out.cell 1 (by decide)
        have pl := HO85.out.lt
        simp only [plF, List.getD_cons_zero, List.getD_cons_succ] at p0 p1
        have hcb := HH5.out.bb.cell 0 (by decide)
        have hlb := HH5.out.bb.lt
        obtain ⟨c0, c1, c2, c3, lb⟩ := HH5.out.fw.cells
        clear c0 c1 c3
        gi_upto_region 8 with fail
        refine wpIn_region_plan hF [(0,1),(1,0),(2,0),(3,1),(4,1),(5,0),(6,1),(7,3)] (by kernel_rfl) (by kernel_rfl) (by kernel_rfl) (Ext w5) (fun _ _ h k => h.trans k) (Ext.drawn _ _) ?_
        iterate 4
          first
            | refine Fx.skip rfl rfl (by simp only [List.set_cons_zero, List.set_cons_succ]; rfl) ?_
            | (with_reducible refine Fx.lab0 ?_
               first
                 | refine Fx.moveT rfl rfl rfl (by simp only [List.set_cons_zero, List.set_cons_succ]; rfl) ?_
                 | refine Fx.assignT rfl rfl rfl (by simp only [List.set_cons_zero, List.set_cons_succ]; rfl) ?_
                 | refine Fx.pure_ rfl rfl (fun _ => by go_simp; first | done | rfl) (by simp only [List.set_cons_zero, List.set_cons_succ]; rfl) ?_)
            | (with_reducible refine Fx.lab1 ?_
               refine Fx.look rfl rfl (fun w' hC => by obtain ⟨hc, hf, hl⟩ := Ext.cells hC; go_simp; rfl) (by simp only [List.set_cons_zero, List.set_cons_succ]; rfl) ?_)
        refine Fx.look rfl rfl (op_load_Pl' (f := x.e) (c := x.n) pl p0 p1 rfl) (by simp only [List.set_cons_zero, List.set_cons_succ]; rfl) ?_
        first
          | refine Fx.skip rfl rfl (by simp only [List.set_cons_zero, List.set_cons_succ]; rfl) ?_
          | (with_reducible refine Fx.lab0 ?_
             first
               | refine Fx.moveT rfl rfl rfl (by simp only [List.set_cons_zero, List.set_cons_succ]; rfl) ?_
               | refine Fx.assignT rfl rfl rfl (by simp only [List.set_cons_zero, List.set_cons_succ]; rfl) ?_
               | refine Fx.pure_ rfl rfl (fun _ => by go_simp; first | done | rfl) (by simp only [List.set_cons_zero, List.set_cons_succ]; rfl) ?_)
          | (with_reducible refine Fx.lab1 ?_
             refine Fx.look rfl rfl (fun w' hC => by obtain ⟨hc, hf, hl⟩ := Ext.cells hC; go_simp; rfl) (by simp only [List.set_cons_zero, List.set_cons_succ]; rfl) ?_)
        refine Fx.look rfl rfl (op_load_Ms' (m := x.m) nl m0 m1 m2 rfl) (by simp only [List.set_cons_zero, List.set_cons_succ]; rfl) ?_
        refine Fx.eff0 (fun w' => MapIs w' mw plV Ms.val (kput (x.e, x.n) x.m σk.wt) ∧ Mods (· = mw) w5 w') (fun _ _ h k => ⟨h.1.ext k, h.2.then_ k⟩) rfl rfl (fun w' hC => ?_) ?_
        · exact stepAt_mono (stepAt_upd (k := (x.e, x.n)) (v := x.m) (HH5.out.fw.wm.ext hC) keysPl Try.underlying69 rfl rfl rfl) (fun _ w'' hh => ⟨hh.1, hh.2.after hC⟩)
        refine Fx.done (fun w9 hC => ?_)
        have HH9 := Lib.hid (HH5.out.fw' HFF.out (Nat.le_refl _) hb5 (HH5.out.fw.putW hC.1 hC.2) (hC.2.mono (fun _ _ h => .inr (.inl h))))
        rw [← hτ] at HH9
        clear hC m0 m1 m2 nl p0 p1 pl hcb hlb c2 lb HH5 HO75 HO85
        obtain ⟨τ, hτ2⟩ : ∃ τ, putW σk x = τ := ⟨_, rfl⟩
        rw [hτ2] at HH9 ht
        have Hτ : Hid (putW (takeS σ (l.take k)) x = τ) := Lib.hid (by rw [Hσk.out]; exact hτ2)
        have HNt : Hid (N.length + τ.wt.length ≤ 1000001) := Lib.hid (by have := Hsum.out; omega)
        clear hτ hτ2 ht ho1
        obtain ⟨L, hL⟩ : ∃ L, drain τ = L := ⟨_, rfl⟩
        have hLl : N.length + L.length ≤ 1000001 := by rw [← hL]; have := drain_len τ; have := HNt.out; omega
        have HLl := Lib.hid hLl
        have HLd := Lib.hid hL
        have hcb := HH9.out.bb.cell 0 (by decide)
        have hlb := HH9.out.bb.lt
        clear hL hLl
        gi_upto_region 9 with fail
        refine wpIn_region_line hF [(0,1),(1,2)] (by kernel_rfl) (by kernel_rfl) (Ext w9) (fun _ _ h k => h.trans k) (Ext.refl _) ?_
        first
          | refine Fx.skip rfl rfl (by simp only [List.set_cons_zero, List.set_cons_succ]; rfl) ?_
          | (with_reducible refine Fx.lab0 ?_
             first
               | refine Fx.moveT rfl rfl rfl (by simp only [List.set_cons_zero, List.set_cons_succ]; rfl) ?_
               | refine Fx.assignT rfl rfl rfl (by simp only [List.set_cons_zero, List.set_cons_succ]; rfl) ?_
               | refine Fx.pure_ rfl rfl (fun _ => by go_simp; first | done | rfl) (by simp only [List.set_cons_zero, List.set_cons_succ]; rfl) ?_)
          | (with_reducible refine Fx.lab1 ?_
             refine Fx.look rfl rfl (fun w' hC => by obtain ⟨hc, hf, hl⟩ := Ext.cells hC; go_simp; rfl) (by simp only [List.set_cons_zero, List.set_cons_succ]; rfl) ?_)
        refine Fx.mkBy (β := Nat) (fun p => .func (.func 42) #[] #[.pointer (some ⟨p, 0, none⟩)])
          (fun p w' => w9.heap.size ≤ p ∧ Obj_ w' p 1 (fun _ => .pointer (some ⟨b, 0, none⟩))) (fun p _ _ h k => ⟨h.1, h.2.ext k⟩) rfl rfl (fun w'' hC => ?_) (fun Bq => ?_)
        · unfold stepAt
          rw [show (execOp _ _).run Try.prog w'' = .ok (.enter 37 #[.pointer (some ⟨b, 0, none⟩)]) w'' from by first | (go_simp; done) | (go_simp; rfl)]
          exact (ready_at w'' b).mono (fun e w3 hh => by
            obtain ⟨Bn, rfl, h1, h2, h3⟩ := hh
            have := hC.size
            exact ⟨_, rfl, Bn, rfl, h1, by omega, h3⟩)
        simp only [List.set_cons_zero, List.set_cons_succ]
        refine Fx.done (fun w0 hC => ?_)
        obtain ⟨hC0, hq1, oq⟩ := hC
        have HH0 := Lib.hid (HH9.out.ext' hC0)
        have hP : TkP w w0 b mw mb w.heap.size B5 rs := ⟨HH0.out.e.size, HFF.out, Nat.le_refl _, HH0.out.bb.lt, hb5, HH0.out.b5.lt, hne, fun r hr => ⟨(HH0.out.kp r hr).2.1, (Array.getElem?_eq_some_iff.1 (HH0.out.kp r hr).1).1, (HH0.out.kp r hr).2.2⟩⟩
        have HP := Lib.hid hP
        have hnq : nv.ownBlock ≠ some Bq := fun h => by have := HH9.out.own.lt h; omega
        have hq2 : w.heap.size ≤ Bq := Nat.le_trans HH9.out.e.size hq1
        have hq5 : Bq ≠ B5 := fun e => by have := HH9.out.b5.lt; omega
        have HI0 : Hid (TkI w w0 b mw mb w.heap.size B5 Bq rs τ L N 0 (TkT b mw B5 nv) w0) := Lib.hid ⟨nv, ⟨HH0.out.fw, HH0.out.bb, HH0.out.b5, by rw [List.take_zero, List.append_nil]; exact HH0.out.own, fun x hx => ⟨(HH0.out.nf x hx).1, (HH0.out.nf x hx).2.1, (HH0.out.nf x hx).2.2.1, (HH0.out.nf x hx).2.2.2, fun h => by have := HH0.out.own.lt hx; unfold Bk at h; omega⟩, fun r hr => (HH0.out.kp r hr).1, HH0.out.e⟩, fun _ => Iff.rfl, oq, hnq⟩
        have Hq25 := Lib.hid (And.intro hq2 hq5)
        have Hql := Lib.hid oq.lt
        have Hnd := Lib.hid HH0.out.nd
        clear hP oq hq1 hq2 hq5 hnq hC0 hcb hlb HH9 HH0
        gi_wp2
        refine rangeFunc_lawT hF rfl (gf := 42) (lb := #[.pointer (some ⟨Bq, 0, none⟩)]) ?hg (fun args w => callFunc_at _ (by kernel_rfl) args w)
          L.length (fun k => #[plV (τ.ep, (stK τ k).nx), (L.getD k ms0).val]) (fun _ _ => rfl) (TkI w w0 b mw mb w.heap.size B5 Bq rs τ L N) (fun k W => W.cell? ⟨Bq, 0, none⟩ = some (.pointer (some ⟨b, 0, none⟩)) ∧ FwAt W b mw mb (stK τ k)) (fun _ _ _ => False)
          ?hII ?hTB ?hTl ?hI ?hIx (TkT b mw B5 nv) ?hT0 ?h0 ?hseq (TkA w w0 b mw mb w.heap.size B5 Bq rs τ L N) ?hA ?hassign ?hbody ?hdone ?hstop
        case hg => rfl
        case hII => exact fun k T W h => let ⟨_, h1, _, h3, _⟩ := h; ⟨h3.cell 0 (by decide), h1.fw⟩
        case hTB => exact fun k T W h x hx ht => let ⟨_, h1, h2, _⟩ := h; h1.nb HP.out x hx ((h2 x).1 ht)
        case hTl => exact fun k T W h x hx => let ⟨_, h1, h2, _⟩ := h; h1.lt x ((h2 x).1 hx)
        case hI => exact fun k T W W' S h hm hS => h.mods HP.out Hql.out hm hS
        case hIx => exact fun _ _ _ _ h _ => h.elim
        case hT0 => exact fun x hx => (let ⟨_, h1, h2, _⟩ := HI0.out; h1.lt x ((h2 x).1 hx))
        case h0 => exact HI0.out
        case hseq =>
          intro W hm
          have := ready_iter hF rfl (5 - 1) (fun k W => W.cell? ⟨Bq, 0, none⟩ = some (.pointer (some ⟨b, 0, none⟩)) ∧ FwAt W b mw mb (stK τ k)) b mw mb τ Bq (fun k W h => h) W
          rwa [HLd.out] at this
        case hA =>
          rintro k T a' W W' ⟨h1, B11, B12, ⟨h2, h2'⟩, ⟨h3, h3'⟩, h4, h5, h6⟩ hm
          exact ⟨h1.mods HP.out Hql.out hm (fun x hx => ⟨by unfold Bk at hx; omega, fun ht => by obtain ⟨nv', g1, g2, -⟩ := h1; exact g1.nb HP.out x hx ((g2 x).1 ht)⟩), B11, B12, ⟨h2, h2'⟩, ⟨h3, h3'⟩, h4.mods hm (by unfold Bk; omega), h5.mods hm (by unfold Bk; omega), h6⟩
        case hassign =>
          intro q k T W hk hi hs
          have Hi := Lib.hid hi
          clear hi
          obtain ⟨y, hy⟩ : ∃ y, L.getD k ms0 = y := ⟨_, rfl⟩
          obtain ⟨pk, hpk⟩ : ∃ pk, (τ.ep, (stK τ k).nx) = pk := ⟨_, rfl⟩
          rw [hy, hpk]
          have Hy := Lib.hid hy
          have Hpk := Lib.hid hpk
          clear hy hpk
          simp only [List.zip_toArray, List.zip_cons_cons, List.zip_nil_left, List.zip_nil_right, List.foldl_toArray, List.foldl_toArray', List.foldl_cons, List.foldl_nil, List.setIfInBounds_toArray, List.set_cons_succ, List.set_cons_zero]
          have hFq := hF.inRound q
          gi_upto_region 10 with fail
          refine wpIn_region_line hFq [(0,2),(1,3)] (by kernel_rfl) (by kernel_rfl) (Ext W) (fun _ _ h k => h.trans k) (Ext.refl _) ?_
          refine Fx.mkPtr (fun B w' => W.heap.size ≤ B ∧ Obj_ w' B 2 (plF (0, 0))) (fun B _ _ h k => ⟨h.1, h.2.ext k⟩) rfl rfl (fun w' hC => stepAt_alloc_Pl hC) (fun B11 => ?_)
          simp only [List.set_cons_zero, List.set_cons_succ]
          refine Fx.eff0 (PlPre W B11 pk) (plPre_stable _ _ _) rfl rfl (fun w' hC => stepAt_mono (stepAt_store_Pl hC.1 hC.2.1 hC.2.2 pk rfl rfl) (fun _ w'' h => ⟨h.1, hC.2.1, h.2⟩)) ?_
          refine Fx.done (fun w3 hC => ?_)
          have HC3 := Lib.hid hC
          clear hC
          gi_upto_region 11 with fail
          refine wpIn_region_line hFq [(0,2),(1,3)] (by kernel_rfl) (by kernel_rfl) (Ext w3) (fun _ _ h k => h.trans k) (Ext.refl _) ?_
          refine Fx.mkPtr (fun B w' => w3.heap.size ≤ B ∧ Obj_ w' B 3 (msF ms0)) (fun B _ _ h k => ⟨h.1, h.2.ext k⟩) rfl rfl (fun w' hC => stepAt_alloc_Ms hC) (fun B12 => ?_)
          simp only [List.set_cons_zero, List.set_cons_succ]
          refine Fx.eff0 (MsPre w3 B12 y) (msPre_stable _ _ _) rfl rfl (fun w' hC => stepAt_mono (stepAt_store_Ms hC.1 hC.2.1 hC.2.2 y rfl rfl) (fun _ w'' h => ⟨h.1, hC.2.1, h.2⟩)) ?_
          refine Fx.done (fun w4 hC => ?_)
          obtain ⟨g1, g2, g3⟩ := HC3.out
          obtain ⟨f1, f2, f3⟩ := hC
          have hsz := g1.size
          have hTl : ∀ x, T x → x < W.heap.size := fun x hx => by obtain ⟨nv', e1, e2, -⟩ := Hi.out; exact e1.lt x ((e2 x).1 hx)
          exact ⟨g1.trans f1, Hi.out.mods HP.out Hql.out ((g1.trans f1).mods (fun _ => False)) (fun _ h => h.elim), B11, B12, ⟨by omega, fun h => by have := hTl _ h; omega⟩, ⟨by omega, fun h => by have := hTl _ h; omega⟩, by rw [Hpk.out]; exact g3.ext f1, by rw [Hy.out]; exact f3, ⟨rfl, rfl, rfl, rfl, rfl, rfl⟩⟩
        case hbody =>
          rintro q k T ⟨tm2, df2⟩ W hk ⟨hi, B11, B12, hB11, hB12, hO11, hO12, hA2⟩ hs
          have hFq := hF.inRound q
          obtain ⟨z, g2, g5, g11, g12, gd⟩ := hA2
          simp only at z g2 g5 g11 g12 gd
          have hfr2 := fr73 z
          obtain ⟨u2, hu2⟩ : ∃ u : Nat → Value, (fun i => tm2.getD i undef) = u := ⟨_, rfl⟩
          have gg : ∀ i, tm2.getD i undef = u2 i := fun i => by rw [← hu2]
          rw [gg] at g2 g5 g11 g12
          rw [hu2] at hfr2
          clear z hu2 gg
          subst hfr2
          subst gd
          obtain ⟨nk, hnk⟩ : ∃ nk, (stK τ k).nx = nk := ⟨_, rfl⟩
          obtain ⟨y, hy⟩ : ∃ y, L.getD k ms0 = y := ⟨_, rfl⟩
          have htk2 : L.take (k + 1) = L.take k ++ [y] := by
            rw [List.take_succ_eq_append_getElem hk]
            have : L[k] = y := by rw [← hy, List.getD_eq_getElem?_getD, List.getElem?_eq_getElem hk]; rfl
            rw [this]
          have htk : stK τ (k + 1) = { ep := (stK τ k).ep, nx := IntKind.u32.wrap (nk + 1), wt := kdel (τ.ep, nk) (stK τ k).wt, bf := (stK τ k).bf } := by
            show stepD (stK τ k) = _
            unfold stepD
            rw [show kdel ((stK τ k).ep, (stK τ k).nx) (stK τ k).wt = kdel (τ.ep, nk) (stK τ k).wt by rw [stK_ep, hnk], hnk]
          rw [hnk] at hO11
          rw [hy] at hO12
          obtain ⟨nv', hS, hT, hoq, hqn⟩ := hi
          have HqN := Lib.hid hqn
          have HTK := Lib.hid htk
          have HTK2 := Lib.hid htk2
          have HS := Lib.hid hS
          have HT := Lib.hid hT
          have HOq := Lib.hid hoq
          have H11 := Lib.hid hO11
          have H12 := Lib.hid hO12
          have hT11 : ¬ TkT b mw B5 nv' B11 := fun h => hB11.2 ((hT _).2 h)
          have hT12 : ¬ TkT b mw B5 nv' B12 := fun h => hB12.2 ((hT _).2 h)
          have HT11 := Lib.hid hT11
          have HT12 := Lib.hid hT12
          have hcb := hS.bb.cell 0 (by decide)
          have hlb := hS.bb.lt
          obtain ⟨c0, c1, c2, c3, lb⟩ := hS.fw.cells
          rw [hnk] at c1
          have p0 := hO11.cell 0 (by decide)
          have p1 := hO11.cell 1 (by decide)
          have pl := hO11.lt
          simp only [plF, List.getD_cons_zero, List.getD_cons_succ] at p0 p1
          have Hnk := Lib.hid hnk
          have hB11' := hB11.1
          have hB12' := hB12.1
          clear hqn hy htk htk2 hS hT hoq hO11 hO12 hT11 hT12 c0 c3 hnk hB11 hB12
          simp only [frN, Nat.reduceAdd, g2, g5, g11, g12]
          clear g2 g5 g11 g12
          gi_upto_region 12 with fail
          refine wpIn_region_plan hFq [(0,1),(1,0),(2,0),(3,1),(4,1),(5,3)] (by kernel_rfl) (by kernel_rfl) (by kernel_rfl) (Ext W) (fun _ _ h k => h.trans k) (Ext.drawn _ _) ?_
          iterate 4
            first
              | refine Fx.skip rfl rfl (by simp only [List.set_cons_zero, List.set_cons_succ]; rfl) ?_
              | (with_reducible refine Fx.lab0 ?_
                 first
                   | refine Fx.moveT rfl rfl rfl (by simp only [List.set_cons_zero, List.set_cons_succ]; rfl) ?_
                   | refine Fx.assignT rfl rfl rfl (by simp only [List.set_cons_zero, List.set_cons_succ]; rfl) ?_
                   | refine Fx.pure_ rfl rfl (fun _ => by go_simp; first | done | rfl) (by simp only [List.set_cons_zero, List.set_cons_succ]; rfl) ?_)
              | (with_reducible refine Fx.lab1 ?_
                 refine Fx.look rfl rfl (fun w' hC => by obtain ⟨hc, hf, hl⟩ := Ext.cells hC; go_simp; rfl) (by simp only [List.set_cons_zero, List.set_cons_succ]; rfl) ?_)
          refine Fx.look rfl rfl (op_load_Pl' (f := τ.ep) (c := nk) pl p0 p1 rfl) (by simp only [List.set_cons_zero, List.set_cons_succ]; rfl) ?_
          refine Fx.eff0 (fun w' => MapIs w' mw plV Ms.val (kdel (τ.ep, nk) (stK τ k).wt) ∧ Mods (· = mw) W w') (fun _ _ h k => ⟨h.1.ext k, h.2.then_ k⟩) rfl rfl (fun w' hC => ?_) ?_
          · exact stepAt_mono (stepAt_del (k := (τ.ep, nk)) (HS.out.fw.wm.ext hC) keysPl Try.underlying69 rfl rfl) (fun _ w'' hh => ⟨hh.1, hh.2.after hC⟩)
          refine Fx.done (fun wa hC => ?_)
          have hfa := HS.out.fw.putW hC.1 hC.2
          have HSa := Lib.hid (HS.out.fw' HP.out hfa (hC.2.mono (fun _ _ h => .inr (.inl h))))
          have Ma := Lib.hid (hC.2.mono (T := TkT b mw B5 nv') (fun _ _ h => .inr (.inl h)))
          clear hC hcb hlb c1 c2 lb p0 p1 pl hfa
          have hcb := HSa.out.bb.cell 0 (by decide)
          have hlb := HSa.out.bb.lt
          obtain ⟨c0, c1, c2, c3, lb⟩ := HSa.out.fw.cells
          have f1 := HSa.out.fw.o.free 1
          simp only [Hnk.out] at c1
          clear c0 c2 c3
          gi_upto_region 13 with fail
          refine wpIn_region_line hFq [(0,1),(1,0),(2,0),(3,1),(4,0),(5,0),(6,0),(7,3)] (by kernel_rfl) (by kernel_rfl) (Ext wa) (fun _ _ h k => h.trans k) (Ext.refl _) ?_
          iterate 7
            first
              | refine Fx.skip rfl rfl (by simp only [List.set_cons_zero, List.set_cons_succ]; rfl) ?_
              | (with_reducible refine Fx.lab0 ?_
                 first
                   | refine Fx.moveT rfl rfl rfl (by simp only [List.set_cons_zero, List.set_cons_succ]; rfl) ?_
                   | refine Fx.assignT rfl rfl rfl (by simp only [List.set_cons_zero, List.set_cons_succ]; rfl) ?_
                   | refine Fx.pure_ rfl rfl (fun _ => by go_simp; first | done | rfl) (by simp only [List.set_cons_zero, List.set_cons_succ]; rfl) ?_)
              | (with_reducible refine Fx.lab1 ?_
                 refine Fx.look rfl rfl (fun w' hC => by obtain ⟨hc, hf, hl⟩ := Ext.cells hC; go_simp; rfl) (by simp only [List.set_cons_zero, List.set_cons_succ]; rfl) ?_)
          refine Fx.store ⟨b, 1, none⟩ (.int .u32 (IntKind.u32.wrap (nk + 1))) rfl rfl (fun w' hC => by obtain ⟨hc, hf, hl⟩ := Ext.cells hC; go_simp) ?_
          refine Fx.done (fun w2 hC => ?_)
          obtain ⟨wb, hb1, hb2⟩ := hC
          have hfb := (HSa.out.fw.ext hb1).setN (IntKind.u32.wrap (nk + 1)) hb2
          have mb2 : Mods (· = b) wa w2 := (hb1.mods _).trans ((Mods.setCell wb b 1 _).then_ hb2) (fun _ _ h => h)
          have HSb := Lib.hid (HSa.out.fw' HP.out hfb (mb2.mono (fun _ _ h => .inl h)))
          have Mb := Lib.hid (Ma.out.trans mb2 (fun _ _ h => .inl h))
          have h12b := Lib.hid (H12.out.mods Mb.out HT12.out)
          clear hb1 hb2 hfb mb2 hcb hlb c1 f1 lb
          obtain ⟨d0, d1, d2⟩ := h12b.out.ms
          have dl := h12b.out.lt
          have hc5 := HSb.out.b5.cell 0 (by decide)
          have hf5 := HSb.out.b5.free 0
          have hl5 := HSb.out.b5.lt
          obtain ⟨sA, scap, hsv, -⟩ := HSb.out.own.val
          have hNl : (N ++ L.take k).length + 1 ≤ 1073741824 := by rw [List.length_append, List.length_take]; have := HLl.out; omega
          have HNlk := Lib.hid hNl
          have hn5 : ¬ nv'.ownBlock = some B5 := fun h => (HSb.out.nf _ h).2.2.1 rfl
          have HN5 := Lib.hid hn5
          obtain ⟨nq, hnq⟩ : ∃ nq, (N ++ L.take k).length = nq := ⟨_, rfl⟩
          rw [hnq] at hsv
          clear hNl hn5 hnq
          subst hsv
          gi_upto_region 14 with fail
          refine wpIn_region_line hFq [(0,1),(1,1),(2,2),(3,3),(4,3)] (by kernel_rfl) (by kernel_rfl) (Ext w2) (fun _ _ h k => h.trans k) (Ext.refl _) ?_
          first
            | refine Fx.skip rfl rfl (by simp only [List.set_cons_zero, List.set_cons_succ]; rfl) ?_
            | (with_reducible refine Fx.lab0 ?_
               first
                 | refine Fx.moveT rfl rfl rfl (by simp only [List.set_cons_zero, List.set_cons_succ]; rfl) ?_
                 | refine Fx.assignT rfl rfl rfl (by simp only [List.set_cons_zero, List.set_cons_succ]; rfl) ?_
                 | refine Fx.pure_ rfl rfl (fun _ => by go_simp; first | done | rfl) (by simp only [List.set_cons_zero, List.set_cons_succ]; rfl) ?_)
            | (with_reducible refine Fx.lab1 ?_
               refine Fx.look rfl rfl (fun w' hC => by obtain ⟨hc, hf, hl⟩ := Ext.cells hC; go_simp; rfl) (by simp only [List.set_cons_zero, List.set_cons_succ]; rfl) ?_)
          refine Fx.look rfl rfl (op_load_Ms' (m := y) dl d0 d1 d2 rfl) (by simp only [List.set_cons_zero, List.set_cons_succ]; rfl) ?_
          refine Fx.mkSl 1 1 (fun B w' => MsL w' (.slice (some ⟨B, 0, none⟩) 1 1) [y]) (fun B _ _ h k => h.ext k) rfl rfl (fun w' hC => stepAt_lit1 hC y rfl) (fun B2 => ?_)
          simp only [List.set_cons_zero, List.set_cons_succ]
          refine Fx.eff (fun v' w' => OwnMs w' v' ((N ++ L.take k) ++ [y]) ∧ Mods (fun c => Value.ownBlock (.slice sA nq scap) = some c) w2 w' ∧ (∀ c, v'.ownBlock = some c → Value.ownBlock (.slice sA nq scap) = some c ∨ w2.heap.size ≤ c)) (fun v _ _ h k => ⟨h.1.ext k, h.2.1.then_ k, h.2.2⟩) rfl rfl
            (fun w' hC => stepAt_append hC.1 (HSb.out.own.ext hC.1) hC.2 (by have := HNlk.out; simp at this ⊢; omega) rfl rfl) (fun v3 => ?_)
          simp only [List.set_cons_zero, List.set_cons_succ]
          refine Fx.store ⟨B5, 0, none⟩ v3 rfl rfl (fun w' hC => by
            obtain ⟨hc, hf, hl⟩ := hC.2.1.cells
            have e1 := (hc B5 0 hl5 HN5.out).trans hc5
            have e2 := (hf B5 0 hl5 HN5.out).trans hf5
            obtain ⟨A3, n3, c3, rfl⟩ : ∃ A n cap, v3 = .slice A n cap := by obtain ⟨A, cap, e, _⟩ := hC.1.val; exact ⟨_, _, _, e⟩
            clear hc hf hl hC
            go_simp) ?_
          refine Fx.done (fun w4 hC => ?_)
          obtain ⟨w3, ⟨a1, a2, a3⟩, a4⟩ := hC
          have hsb : w0.heap.size + 2 ≤ w2.heap.size := by have := Mb.out.size; omega
          have hSc := HSb.out.grow HP.out hsb a1 a2 a3 a4
          have m3 : Mods (TkT b mw B5 (.slice sA nq scap)) w2 w4 := (a2.mono (T := TkT b mw B5 (.slice sA nq scap)) (fun _ _ h => .inr (.inr (.inr h)))).trans ((Mods.setCell w3 B5 0 v3).then_ a4) (fun _ _ h => .inr (.inr (.inl h)))
          have HSc := Lib.hid hSc
          have Mc := Lib.hid (Mb.out.trans m3 (fun _ _ h => h))
          have HA3 := Lib.hid a3
          have hs2 := Mb.out.size
          clear a1 a2 a3 a4 hSc m3 d0 d1 d2 dl hc5 hf5 hl5
          gi_wp2
          refine ⟨TkT b mw B5 v3, Mc.out.mono (fun x _ h => (HT.out x).2 h), fun x hx => ?_, v3, ?_, fun _ => Iff.rfl, ?_, fun h => ?_⟩
          · rcases hx with hx | hx | hx | hx
            · exact .inl ((HT.out x).2 (.inl hx))
            · exact .inl ((HT.out x).2 (.inr (.inl hx)))
            · exact .inl ((HT.out x).2 (.inr (.inr (.inl hx))))
            · rcases HA3.out x hx with h | h
              · exact .inl ((HT.out x).2 (.inr (.inr (.inr h))))
              · exact .inr (by omega)
          · rw [HTK.out, HTK2.out, ← List.append_assoc]; exact HSc.out
          · refine HOq.out.mods Mc.out (fun h => ?_)
            have hql := Hql.out
            have hq2 := Hq25.out.1
            rcases h with h | h | h | h
            · have := HP.out.ff b (.inl rfl); omega
            · have := HP.out.ff mw (.inr (.inl rfl)); omega
            · exact Hq25.out.2 h
            · exact HqN.out h
          · rcases HA3.out _ h with h | h
            · exact HqN.out h
            · have := Hql.out; omega
        case hdone =>
          intro T W hI hD hs
          obtain ⟨nv', hS, -, -, -⟩ := hI
          rw [List.take_length] at hS
          have HS := Lib.hid hS
          have HDd := Lib.hid hD
          clear hS hD
          gi_wp2
          refine ⟨⟨k + 1, nv', w0.heap.size :: rs, by omega, ⟨rfl, rfl, rfl, rfl, rfl, rfl, rfl⟩, ?_⟩, ?_⟩
          · have e1 : takeS σ (l.take (k + 1)) = stK τ L.length := by rw [Htk.out, takeS_snoc]; show stK (putW _ _) (drain (putW _ _)).length = _; rw [Hτ.out, HLd.out]
            have e2 : takeL σ (l.take (k + 1)) = N ++ L := by rw [Htk.out, takeL_snoc, Hτ.out, HN.out, HLd.out]
            rw [e1, e2]
            refine ⟨HS.out.fw, HS.out.bb, HS.out.b5, HS.out.own, fun x hx => ?_, fun r hr => ?_, List.nodup_cons.2 ⟨fun h => by have := (HP.out.rs _ h).2.1; omega, Hnd.out⟩, HS.out.e⟩
            · obtain ⟨f1, f2, f3, f4, f5⟩ := HS.out.nf x hx
              exact ⟨f1, f2, f3, fun h => (List.mem_cons.1 h).elim (fun e => f5 (.inl e)) f4⟩
            · rcases List.mem_cons.1 hr with rfl | hr
              · exact ⟨HDd.out, HP.out.ws, fun e => by have := HP.out.bb1; omega, fun e => by have := HP.out.b51; omega⟩
              · exact ⟨HS.out.rs r hr, (HP.out.rs r hr).1, (HP.out.rs r hr).2.2⟩
          · show n - (intOf (.int .i64 ((k : Int) + 1))).toNat < n - k
            simp [intOf]; omega
        case hstop => exact fun c k W _ h => h.elim
      · have hτ : putW σk x = σk := by
          unfold putW
          rw [Ho.out]
          by_cases h1 : o.isSome = true
          · rw [if_pos h1]
          · rw [if_neg h1]
            have h2 : ¬ σk.nx ≤ x.n := fun h => hput ⟨by simpa using h1, h⟩
            rw [if_neg h2]
        obtain ⟨s, hs⟩ : ∃ s, o.isSome = s := ⟨_, rfl⟩
        rw [hs] at hput ⊢
        clear hs
        cases s with
        | true =>
          clear hput
          gi_upto_region 7 with fail
          refine wpIn_region_plan hF [(0,0),(1,0),(2,0),(3,0),(4,1),(5,1),(6,0),(7,0),(8,1),(9,0),(10,0)] (by kernel_rfl) (by kernel_rfl) (by kernel_rfl) (Ext w4) (fun _ _ h k => h.trans k) (Ext.drawn _ _) ?_
          iterate 11
            first
              | refine Fx.skip rfl rfl (by simp only [List.set_cons_zero, List.set_cons_succ]; rfl) ?_
              | (with_reducible refine Fx.lab0 ?_
                 first
                   | refine Fx.moveT rfl rfl rfl (by simp only [List.set_cons_zero, List.set_cons_succ]; rfl) ?_
                   | refine Fx.assignT rfl rfl rfl (by simp only [List.set_cons_zero, List.set_cons_succ]; rfl) ?_
                   | refine Fx.pure_ rfl rfl (fun _ => by go_simp; first | done | rfl) (by simp only [List.set_cons_zero, List.set_cons_succ]; rfl) ?_)
              | (with_reducible refine Fx.lab1 ?_
                 refine Fx.look rfl rfl (fun w' hC => by obtain ⟨hc, hf, hl⟩ := Ext.cells hC; go_simp; rfl) (by simp only [List.set_cons_zero, List.set_cons_succ]; rfl) ?_)
          refine Fx.done (fun w9 hC => ?_)
          have HH9 := Lib.hid (HH4.out.ext' hC)
          clear hC n0 n1 nl hcb hlb c1 lb HH4 HO74 HO84
          have Hτ : Hid (putW (takeS σ (l.take k)) x = σk) := Lib.hid (by rw [Hσk.out]; exact hτ)
          have HNt : Hid (N.length + σk.wt.length ≤ 1000001) := Lib.hid (by have := Hsum.out; omega)
          clear hτ
          generalize σk = τ at *
          obtain ⟨L, hL⟩ : ∃ L, drain τ = L := ⟨_, rfl⟩
          have hLl : N.length + L.length ≤ 1000001 := by rw [← hL]; have := drain_len τ; have := HNt.out; omega
          have HLl := Lib.hid hLl
          have HLd := Lib.hid hL
          have hcb := HH9.out.bb.cell 0 (by decide)
          have hlb := HH9.out.bb.lt
          clear hL hLl
          gi_upto_region 9 with fail
          refine wpIn_region_line hF [(0,1),(1,2)] (by kernel_rfl) (by kernel_rfl) (Ext w9) (fun _ _ h k => h.trans k) (Ext.refl _) ?_
          first
            | refine Fx.skip rfl rfl (by simp only [List.set_cons_zero, List.set_cons_succ]; rfl) ?_
            | (with_reducible refine Fx.lab0 ?_
               first
                 | refine Fx.moveT rfl rfl rfl (by simp only [List.set_cons_zero, List.set_cons_succ]; rfl) ?_
                 | refine Fx.assignT rfl rfl rfl (by simp only [List.set_cons_zero, List.set_cons_succ]; rfl) ?_
                 | refine Fx.pure_ rfl rfl (fun _ => by go_simp; first | done | rfl) (by simp only [List.set_cons_zero, List.set_cons_succ]; rfl) ?_)
            | (with_reducible refine Fx.lab1 ?_
               refine Fx.look rfl rfl (fun w' hC => by obtain ⟨hc, hf, hl⟩ := Ext.cells hC; go_simp; rfl) (by simp only [List.set_cons_zero, List.set_cons_succ]; rfl) ?_)
          refine Fx.mkBy (β := Nat) (fun p => .func (.func 42) #[] #[.pointer (some ⟨p, 0, none⟩)])
            (fun p w' => w9.heap.size ≤ p ∧ Obj_ w' p 1 (fun _ => .pointer (some ⟨b, 0, none⟩))) (fun p _ _ h k => ⟨h.1, h.2.ext k⟩) rfl rfl (fun w'' hC => ?_) (fun Bq => ?_)
          · unfold stepAt
            rw [show (execOp _ _).run Try.prog w'' = .ok (.enter 37 #[.pointer (some ⟨b, 0, none⟩)]) w'' from by first | (go_simp; done) | (go_simp; rfl)]
            exact (ready_at w'' b).mono (fun e w3 hh => by
              obtain ⟨Bn, rfl, h1, h2, h3⟩ := hh
              have := hC.size
              exact ⟨_, rfl, Bn, rfl, h1, by omega, h3⟩)
          simp only [List.set_cons_zero, List.set_cons_succ]
          refine Fx.done (fun w0 hC => ?_)
          obtain ⟨hC0, hq1, oq⟩ := hC
          have HH0 := Lib.hid (HH9.out.ext' hC0)
          have hP : TkP w w0 b mw mb w.heap.size B5 rs := ⟨HH0.out.e.size, HFF.out, Nat.le_refl _, HH0.out.bb.lt, hb5, HH0.out.b5.lt, hne, fun r hr => ⟨(HH0.out.kp r hr).2.1, (Array.getElem?_eq_some_iff.1 (HH0.out.kp r hr).1).1, (HH0.out.kp r hr).2.2⟩⟩
          have HP := Lib.hid hP
          have hnq : nv.ownBlock ≠ some Bq := fun h => by have := HH9.out.own.lt h; omega
          have hq2 : w.heap.size ≤ Bq := Nat.le_trans HH9.out.e.size hq1
          have hq5 : Bq ≠ B5 := fun e => by have := HH9.out.b5.lt; omega
          have HI0 : Hid (TkI w w0 b mw mb w.heap.size B5 Bq rs τ L N 0 (TkT b mw B5 nv) w0) := Lib.hid ⟨nv, ⟨HH0.out.fw, HH0.out.bb, HH0.out.b5, by rw [List.take_zero, List.append_nil]; exact HH0.out.own, fun x hx => ⟨(HH0.out.nf x hx).1, (HH0.out.nf x hx).2.1, (HH0.out.nf x hx).2.2.1, (HH0.out.nf x hx).2.2.2, fun h => by have := HH0.out.own.lt hx; unfold Bk at h; omega⟩, fun r hr => (HH0.out.kp r hr).1, HH0.out.e⟩, fun _ => Iff.rfl, oq, hnq⟩
          have Hq25 := Lib.hid (And.intro hq2 hq5)
          have Hql := Lib.hid oq.lt
          have Hnd := Lib.hid HH0.out.nd
          clear hP oq hq1 hq2 hq5 hnq hC0 hcb hlb HH9 HH0
          gi_wp2
          refine rangeFunc_lawT hF rfl (gf := 42) (lb := #[.pointer (some ⟨Bq, 0, none⟩)]) ?hg (fun args w => callFunc_at _ (by kernel_rfl) args w)
            L.length (fun k => #[plV (τ.ep, (stK τ k).nx), (L.getD k ms0).val]) (fun _ _ => rfl) (TkI w w0 b mw mb w.heap.size B5 Bq rs τ L N) (fun k W => W.cell? ⟨Bq, 0, none⟩ = some (.pointer (some ⟨b, 0, none⟩)) ∧ FwAt W b mw mb (stK τ k)) (fun _ _ _ => False)
            ?hII ?hTB ?hTl ?hI ?hIx (TkT b mw B5 nv) ?hT0 ?h0 ?hseq (TkA w w0 b mw mb w.heap.size B5 Bq rs τ L N) ?hA ?hassign ?hbody ?hdone ?hstop
          case hg => rfl
          case hII => exact fun k T W h => let ⟨_, h1, _, h3, _⟩ := h; ⟨h3.cell 0 (by decide), h1.fw⟩
          case hTB => exact fun k T W h x hx ht => let ⟨_, h1, h2, _⟩ := h; h1.nb HP.out x hx ((h2 x).1 ht)
          case hTl => exact fun k T W h x hx => let ⟨_, h1, h2, _⟩ := h; h1.lt x ((h2 x).1 hx)
          case hI => exact fun k T W W' S h hm hS => h.mods HP.out Hql.out hm hS
          case hIx => exact fun _ _ _ _ h _ => h.elim
          case hT0 => exact fun x hx => (let ⟨_, h1, h2, _⟩ := HI0.out; h1.lt x ((h2 x).1 hx))
          case h0 => exact HI0.out
          case hseq =>
            intro W hm
            have := ready_iter hF rfl (5 - 1) (fun k W => W.cell? ⟨Bq, 0, none⟩ = some (.pointer (some ⟨b, 0, none⟩)) ∧ FwAt W b mw mb (stK τ k)) b mw mb τ Bq (fun k W h => h) W
            rwa [HLd.out] at this
          case hA =>
            rintro k T a' W W' ⟨h1, B11, B12, ⟨h2, h2'⟩, ⟨h3, h3'⟩, h4, h5, h6⟩ hm
            exact ⟨h1.mods HP.out Hql.out hm (fun x hx => ⟨by unfold Bk at hx; omega, fun ht => by obtain ⟨nv', g1, g2, -⟩ := h1; exact g1.nb HP.out x hx ((g2 x).1 ht)⟩), B11, B12, ⟨h2, h2'⟩, ⟨h3, h3'⟩, h4.mods hm (by unfold Bk; omega), h5.mods hm (by unfold Bk; omega), h6⟩
          case hassign =>
            intro q k T W hk hi hs
            have Hi := Lib.hid hi
            clear hi
            obtain ⟨y, hy⟩ : ∃ y, L.getD k ms0 = y := ⟨_, rfl⟩
            obtain ⟨pk, hpk⟩ : ∃ pk, (τ.ep, (stK τ k).nx) = pk := ⟨_, rfl⟩
            rw [hy, hpk]
            have Hy := Lib.hid hy
            have Hpk := Lib.hid hpk
            clear hy hpk
            simp only [List.zip_toArray, List.zip_cons_cons, List.zip_nil_left, List.zip_nil_right, List.foldl_toArray, List.foldl_toArray', List.foldl_cons, List.foldl_nil, List.setIfInBounds_toArray, List.set_cons_succ, List.set_cons_zero]
            have hFq := hF.inRound q
            gi_upto_region 10 with fail
            refine wpIn_region_line hFq [(0,2),(1,3)] (by kernel_rfl) (by kernel_rfl) (Ext W) (fun _ _ h k => h.trans k) (Ext.refl _) ?_
            refine Fx.mkPtr (fun B w' => W.heap.size ≤ B ∧ Obj_ w' B 2 (plF (0, 0))) (fun B _ _ h k => ⟨h.1, h.2.ext k⟩) rfl rfl (fun w' hC => stepAt_alloc_Pl hC) (fun B11 => ?_)
            simp only [List.set_cons_zero, List.set_cons_succ]
            refine Fx.eff0 (PlPre W B11 pk) (plPre_stable _ _ _) rfl rfl (fun w' hC => stepAt_mono (stepAt_store_Pl hC.1 hC.2.1 hC.2.2 pk rfl rfl) (fun _ w'' h => ⟨h.1, hC.2.1, h.2⟩)) ?_
            refine Fx.done (fun w3 hC => ?_)
            have HC3 := Lib.hid hC
            clear hC
            gi_upto_region 11 with fail
            refine wpIn_region_line hFq [(0,2),(1,3)] (by kernel_rfl) (by kernel_rfl) (Ext w3) (fun _ _ h k => h.trans k) (Ext.refl _) ?_
            refine Fx.mkPtr (fun B w' => w3.heap.size ≤ B ∧ Obj_ w' B 3 (msF ms0)) (fun B _ _ h k => ⟨h.1, h.2.ext k⟩) rfl rfl (fun w' hC => stepAt_alloc_Ms hC) (fun B12 => ?_)
            simp only [List.set_cons_zero, List.set_cons_succ]
            refine Fx.eff0 (MsPre w3 B12 y) (msPre_stable _ _ _) rfl rfl (fun w' hC => stepAt_mono (stepAt_store_Ms hC.1 hC.2.1 hC.2.2 y rfl rfl) (fun _ w'' h => ⟨h.1, hC.2.1, h.2⟩)) ?_
            refine Fx.done (fun w4 hC => ?_)
            obtain ⟨g1, g2, g3⟩ := HC3.out
            obtain ⟨f1, f2, f3⟩ := hC
            have hsz := g1.size
            have hTl : ∀ x, T x → x < W.heap.size := fun x hx => by obtain ⟨nv', e1, e2, -⟩ := Hi.out; exact e1.lt x ((e2 x).1 hx)
            exact ⟨g1.trans f1, Hi.out.mods HP.out Hql.out ((g1.trans f1).mods (fun _ => False)) (fun _ h => h.elim), B11, B12, ⟨by omega, fun h => by have := hTl _ h; omega⟩, ⟨by omega, fun h => by have := hTl _ h; omega⟩, by rw [Hpk.out]; exact g3.ext f1, by rw [Hy.out]; exact f3, ⟨rfl, rfl, rfl, rfl, rfl, rfl⟩⟩
          case hbody =>
            rintro q k T ⟨tm2, df2⟩ W hk ⟨hi, B11, B12, hB11, hB12, hO11, hO12, hA2⟩ hs
            have hFq := hF.inRound q
            obtain ⟨z, g2, g5, g11, g12, gd⟩ := hA2
            simp only at z g2 g5 g11 g12 gd
            have hfr2 := fr73 z
            obtain ⟨u2, hu2⟩ : ∃ u : Nat → Value, (fun i => tm2.getD i undef) = u := ⟨_, rfl⟩
            have gg : ∀ i, tm2.getD i undef = u2 i := fun i => by rw [← hu2]
            rw [gg] at g2 g5 g11 g12
            rw [hu2] at hfr2
            clear z hu2 gg
            subst hfr2
            subst gd
            obtain ⟨nk, hnk⟩ : ∃ nk, (stK τ k).nx = nk := ⟨_, rfl⟩
            obtain ⟨y, hy⟩ : ∃ y, L.getD k ms0 = y := ⟨_, rfl⟩
            have htk2 : L.take (k + 1) = L.take k ++ [y] := by
              rw [List.take_succ_eq_append_getElem hk]
              have : L[k] = y := by rw [← hy, List.getD_eq_getElem?_getD, List.getElem?_eq_getElem hk]; rfl
              rw [this]
            have htk : stK τ (k + 1) = { ep := (stK τ k).ep, nx := IntKind.u32.wrap (nk + 1), wt := kdel (τ.ep, nk) (stK τ k).wt, bf := (stK τ k).bf } := by
              show stepD (stK τ k) = _
              unfold stepD
              rw [show kdel ((stK τ k).ep, (stK τ k).nx) (stK τ k).wt = kdel (τ.ep, nk) (stK τ k).wt by rw [stK_ep, hnk], hnk]
            rw [hnk] at hO11
            rw [hy] at hO12
            obtain ⟨nv', hS, hT, hoq, hqn⟩ := hi
            have HqN := Lib.hid hqn
            have HTK := Lib.hid htk
            have HTK2 := Lib.hid htk2
            have HS := Lib.hid hS
            have HT := Lib.hid hT
            have HOq := Lib.hid hoq
            have H11 := Lib.hid hO11
            have H12 := Lib.hid hO12
            have hT11 : ¬ TkT b mw B5 nv' B11 := fun h => hB11.2 ((hT _).2 h)
            have hT12 : ¬ TkT b mw B5 nv' B12 := fun h => hB12.2 ((hT _).2 h)
            have HT11 := Lib.hid hT11
            have HT12 := Lib.hid hT12
            have hcb := hS.bb.cell 0 (by decide)
            have hlb := hS.bb.lt
            obtain ⟨c0, c1, c2, c3, lb⟩ := hS.fw.cells
            rw [hnk] at c1
            have p0 := hO11.cell 0 (by decide)
            have p1 := hO11.cell 1 (by decide)
            have pl := hO11.lt
            simp only [plF, List.getD_cons_zero, List.getD_cons_succ] at p0 p1
            have Hnk := Lib.hid hnk
            have hB11' := hB11.1
            have hB12' := hB12.1
            clear hqn hy htk htk2 hS hT hoq hO11 hO12 hT11 hT12 c0 c3 hnk hB11 hB12
            simp only [frN, Nat.reduceAdd, g2, g5, g11, g12]
            clear g2 g5 g11 g12
            gi_upto_region 12 with fail
            refine wpIn_region_plan hFq [(0,1),(1,0),(2,0),(3,1),(4,1),(5,3)] (by kernel_rfl) (by kernel_rfl) (by kernel_rfl) (Ext W) (fun _ _ h k => h.trans k) (Ext.drawn _ _) ?_
            iterate 4
              first
                | refine Fx.skip rfl rfl (by simp only [List.set_cons_zero, List.set_cons_succ]; rfl) ?_
                | (with_reducible refine Fx.lab0 ?_
                   first
                     | refine Fx.moveT rfl rfl rfl (by simp only [List.set_cons_zero, List.set_cons_succ]; rfl) ?_
                     | refine Fx.assignT rfl rfl rfl (by simp only [List.set_cons_zero, List.set_cons_succ]; rfl) ?_
                     | refine Fx.pure_ rfl rfl (fun _ => by go_simp; first | done | rfl) (by simp only [List.set_cons_zero, List.set_cons_succ]; rfl) ?_)
                | (with_reducible refine Fx.lab1 ?_
                   refine Fx.look rfl rfl (fun w' hC => by obtain ⟨hc, hf, hl⟩ := Ext.cells hC; go_simp; rfl) (by simp only [List.set_cons_zero, List.set_cons_succ]; rfl) ?_)
            refine Fx.look rfl rfl (op_load_Pl' (f := τ.ep) (c := nk) pl p0 p1 rfl) (by simp only [List.set_cons_zero, List.set_cons_succ]; rfl) ?_
            refine Fx.eff0 (fun w' => MapIs w' mw plV Ms.val (kdel (τ.ep, nk) (stK τ k).wt) ∧ Mods (· = mw) W w') (fun _ _ h k => ⟨h.1.ext k, h.2.then_ k⟩) rfl rfl (fun w' hC => ?_) ?_
            · exact stepAt_mono (stepAt_del (k := (τ.ep, nk)) (HS.out.fw.wm.ext hC) keysPl Try.underlying69 rfl rfl) (fun _ w'' hh => ⟨hh.1, hh.2.after hC⟩)
            refine Fx.done (fun wa hC => ?_)
            have hfa := HS.out.fw.putW hC.1 hC.2
            have HSa := Lib.hid (HS.out.fw' HP.out hfa (hC.2.mono (fun _ _ h => .inr (.inl h))))
            have Ma := Lib.hid (hC.2.mono (T := TkT b mw B5 nv') (fun _ _ h => .inr (.inl h)))
            clear hC hcb hlb c1 c2 lb p0 p1 pl hfa
            have hcb := HSa.out.bb.cell 0 (by decide)
            have hlb := HSa.out.bb.lt
            obtain ⟨c0, c1, c2, c3, lb⟩ := HSa.out.fw.cells
            have f1 := HSa.out.fw.o.free 1
            simp only [Hnk.out] at c1
            clear c0 c2 c3
            gi_upto_region 13 with fail
            refine wpIn_region_line hFq [(0,1),(1,0),(2,0),(3,1),(4,0),(5,0),(6,0),(7,3)] (by kernel_rfl) (by kernel_rfl) (Ext wa) (fun _ _ h k => h.trans k) (Ext.refl _) ?_
            iterate 7
              first
                | refine Fx.skip rfl rfl (by simp only [List.set_cons_zero, List.set_cons_succ]; rfl) ?_
                | (with_reducible refine Fx.lab0 ?_
                   first
                     | refine Fx.moveT rfl rfl rfl (by simp only [List.set_cons_zero, List.set_cons_succ]; rfl) ?_
                     | refine Fx.assignT rfl rfl rfl (by simp only [List.set_cons_zero, List.set_cons_succ]; rfl) ?_
                     | refine Fx.pure_ rfl rfl (fun _ => by go_simp; first | done | rfl) (by simp only [List.set_cons_zero, List.set_cons_succ]; rfl) ?_)
                | (with_reducible refine Fx.lab1 ?_
                   refine Fx.look rfl rfl (fun w' hC => by obtain ⟨hc, hf, hl⟩ := Ext.cells hC; go_simp; rfl) (by simp only [List.set_cons_zero, List.set_cons_succ]; rfl) ?_)
            refine Fx.store ⟨b, 1, none⟩ (.int .u32 (IntKind.u32.wrap (nk + 1))) rfl rfl (fun w' hC => by obtain ⟨hc, hf, hl⟩ := Ext.cells hC; go_simp) ?_
            refine Fx.done (fun w2 hC => ?_)
            obtain ⟨wb, hb1, hb2⟩ := hC
            have hfb := (HSa.out.fw.ext hb1).setN (IntKind.u32.wrap (nk + 1)) hb2
            have mb2 : Mods (· = b) wa w2 := (hb1.mods _).trans ((Mods.setCell wb b 1 _).then_ hb2) (fun _ _ h => h)
            have HSb := Lib.hid (HSa.out.fw' HP.out hfb (mb2.mono (fun _ _ h => .inl h)))
            have Mb := Lib.hid (Ma.out.trans mb2 (fun _ _ h => .inl h))
            have h12b := Lib.hid (H12.out.mods Mb.out HT12.out)
            clear hb1 hb2 hfb mb2 hcb hlb c1 f1 lb
            obtain ⟨d0, d1, d2⟩ := h12b.out.ms
            have dl := h12b.out.lt
            have hc5 := HSb.out.b5.cell 0 (by decide)
            have hf5 := HSb.out.b5.free 0
            have hl5 := HSb.out.b5.lt
            obtain ⟨sA, scap, hsv, -⟩ := HSb.out.own.val
            have hNl : (N ++ L.take k).length + 1 ≤ 1073741824 := by rw [List.length_append, List.length_take]; have := HLl.out; omega
            have HNlk := Lib.hid hNl
            have hn5 : ¬ nv'.ownBlock = some B5 := fun h => (HSb.out.nf _ h).2.2.1 rfl
            have HN5 := Lib.hid hn5
            obtain ⟨nq, hnq⟩ : ∃ nq, (N ++ L.take k).length = nq := ⟨_, rfl⟩
            rw [hnq] at hsv
            clear hNl hn5 hnq
            subst hsv
            gi_upto_region 14 with fail
            refine wpIn_region_line hFq [(0,1),(1,1),(2,2),(3,3),(4,3)] (by kernel_rfl) (by kernel_rfl) (Ext w2) (fun _ _ h k => h.trans k) (Ext.refl _) ?_
            first
              | refine Fx.skip rfl rfl (by simp only [List.set_cons_zero, List.set_cons_succ]; rfl) ?_
              | (with_reducible refine Fx.lab0 ?_
                 first
                   | refine Fx.moveT rfl rfl rfl (by simp only [List.set_cons_zero, List.set_cons_succ]; rfl) ?_
                   | refine Fx.assignT rfl rfl rfl (by simp only [List.set_cons_zero, List.set_cons_succ]; rfl) ?_
                   | refine Fx.pure_ rfl rfl (fun _ => by go_simp; first | done | rfl) (by simp only [List.set_cons_zero, List.set_cons_succ]; rfl) ?_)
              | (with_reducible refine Fx.lab1 ?_
                 refine Fx.look rfl rfl (fun w' hC => by obtain ⟨hc, hf, hl⟩ := Ext.cells hC; go_simp; rfl) (by simp only [List.set_cons_zero, List.set_cons_succ]; rfl) ?_)
            refine Fx.look rfl rfl (op_load_Ms' (m := y) dl d0 d1 d2 rfl) (by simp only [List.set_cons_zero, List.set_cons_succ]; rfl) ?_
            refine Fx.mkSl 1 1 (fun B w' => MsL w' (.slice (some ⟨B, 0, none⟩) 1 1) [y]) (fun B _ _ h k => h.ext k) rfl rfl (fun w' hC => stepAt_lit1 hC y rfl) (fun B2 => ?_)
            simp only [List.set_cons_zero, List.set_cons_succ]
            refine Fx.eff (fun v' w' => OwnMs w' v' ((N ++ L.take k) ++ [y]) ∧ Mods (fun c => Value.ownBlock (.slice sA nq scap) = some c) w2 w' ∧ (∀ c, v'.ownBlock = some c → Value.ownBlock (.slice sA nq scap) = some c ∨ w2.heap.size ≤ c)) (fun v _ _ h k => ⟨h.1.ext k, h.2.1.then_ k, h.2.2⟩) rfl rfl
              (fun w' hC => stepAt_append hC.1 (HSb.out.own.ext hC.1) hC.2 (by have := HNlk.out; simp at this ⊢; omega) rfl rfl) (fun v3 => ?_)
            simp only [List.set_cons_zero, List.set_cons_succ]
            refine Fx.store ⟨B5, 0, none⟩ v3 rfl rfl (fun w' hC => by
              obtain ⟨hc, hf, hl⟩ := hC.2.1.cells
              have e1 := (hc B5 0 hl5 HN5.out).trans hc5
              have e2 := (hf B5 0 hl5 HN5.out).trans hf5
              obtain ⟨A3, n3, c3, rfl⟩ : ∃ A n cap, v3 = .slice A n cap := by obtain ⟨A, cap, e, _⟩ := hC.1.val; exact ⟨_, _, _, e⟩
              clear hc hf hl hC
              go_simp) ?_
            refine Fx.done (fun w4 hC => ?_)
            obtain ⟨w3, ⟨a1, a2, a3⟩, a4⟩ := hC
            have hsb : w0.heap.size + 2 ≤ w2.heap.size := by have := Mb.out.size; omega
            have hSc := HSb.out.grow HP.out hsb a1 a2 a3 a4
            have m3 : Mods (TkT b mw B5 (.slice sA nq scap)) w2 w4 := (a2.mono (T := TkT b mw B5 (.slice sA nq scap)) (fun _ _ h => .inr (.inr (.inr h)))).trans ((Mods.setCell w3 B5 0 v3).then_ a4) (fun _ _ h => .inr (.inr (.inl h)))
            have HSc := Lib.hid hSc
            have Mc := Lib.hid (Mb.out.trans m3 (fun _ _ h => h))
            have HA3 := Lib.hid a3
            have hs2 := Mb.out.size
            clear a1 a2 a3 a4 hSc m3 d0 d1 d2 dl hc5 hf5 hl5
            gi_wp2
            refine ⟨TkT b mw B5 v3, Mc.out.mono (fun x _ h => (HT.out x).2 h), fun x hx => ?_, v3, ?_, fun _ => Iff.rfl, ?_, fun h => ?_⟩
            · rcases hx with hx | hx | hx | hx
              · exact .inl ((HT.out x).2 (.inl hx))
              · exact .inl ((HT.out x).2 (.inr (.inl hx)))
              · exact .inl ((HT.out x).2 (.inr (.inr (.inl hx))))
              · rcases HA3.out x hx with h | h
                · exact .inl ((HT.out x).2 (.inr (.inr (.inr h))))
                · exact .inr (by omega)
            · rw [HTK.out, HTK2.out, ← List.append_assoc]; exact HSc.out
            · refine HOq.out.mods Mc.out (fun h => ?_)
              have hql := Hql.out
              have hq2 := Hq25.out.1
              rcases h with h | h | h | h
              · have := HP.out.ff b (.inl rfl); omega
              · have := HP.out.ff mw (.inr (.inl rfl)); omega
              · exact Hq25.out.2 h
              · exact HqN.out h
            · rcases HA3.out _ h with h | h
              · exact HqN.out h
              · have := Hql.out; omega
          case hdone =>
            intro T W hI hD hs
            obtain ⟨nv', hS, -, -, -⟩ := hI
            rw [List.take_length] at hS
            have HS := Lib.hid hS
            have HDd := Lib.hid hD
            clear hS hD
            gi_wp2
            refine ⟨⟨k + 1, nv', w0.heap.size :: rs, by omega, ⟨rfl, rfl, rfl, rfl, rfl, rfl, rfl⟩, ?_⟩, ?_⟩
            · have e1 : takeS σ (l.take (k + 1)) = stK τ L.length := by rw [Htk.out, takeS_snoc]; show stK (putW _ _) (drain (putW _ _)).length = _; rw [Hτ.out, HLd.out]
              have e2 : takeL σ (l.take (k + 1)) = N ++ L := by rw [Htk.out, takeL_snoc, Hτ.out, HN.out, HLd.out]
              rw [e1, e2]
              refine ⟨HS.out.fw, HS.out.bb, HS.out.b5, HS.out.own, fun x hx => ?_, fun r hr => ?_, List.nodup_cons.2 ⟨fun h => by have := (HP.out.rs _ h).2.1; omega, Hnd.out⟩, HS.out.e⟩
              · obtain ⟨f1, f2, f3, f4, f5⟩ := HS.out.nf x hx
                exact ⟨f1, f2, f3, fun h => (List.mem_cons.1 h).elim (fun e => f5 (.inl e)) f4⟩
              · rcases List.mem_cons.1 hr with rfl | hr
                · exact ⟨HDd.out, HP.out.ws, fun e => by have := HP.out.bb1; omega, fun e => by have := HP.out.b51; omega⟩
                · exact ⟨HS.out.rs r hr, (HP.out.rs r hr).1, (HP.out.rs r hr).2.2⟩
            · show n - (intOf (.int .i64 ((k : Int) + 1))).toNat < n - k
              simp [intOf]; omega
          case hstop => exact fun c k W _ h => h.elim
        | false =>
          have ho2d : decide (σk.nx ≤ x.n) = false := by simpa using hput
          clear hput
          gi_upto_region 7 with fail
          refine wpIn_region_plan hF [(0,0),(1,0),(2,0),(3,0),(4,1),(5,1),(6,0),(7,0),(8,1),(9,0),(10,0)] (by kernel_rfl) (by kernel_rfl) (by kernel_rfl) (Ext w4) (fun _ _ h k => h.trans k) (Ext.drawn _ _) ?_
          iterate 11
            first
              | refine Fx.skip rfl rfl (by simp only [List.set_cons_zero, List.set_cons_succ]; rfl) ?_
              | (with_reducible refine Fx.lab0 ?_
                 first
                   | refine Fx.moveT rfl rfl rfl (by simp only [List.set_cons_zero, List.set_cons_succ]; rfl) ?_
                   | refine Fx.assignT rfl rfl rfl (by simp only [List.set_cons_zero, List.set_cons_succ]; rfl) ?_
                   | refine Fx.pure_ rfl rfl (fun _ => by go_simp; first | done | rfl) (by simp only [List.set_cons_zero, List.set_cons_succ]; rfl) ?_)
              | (with_reducible refine Fx.lab1 ?_
                 refine Fx.look rfl rfl (fun w' hC => by obtain ⟨hc, hf, hl⟩ := Ext.cells hC; go_simp; rfl) (by simp only [List.set_cons_zero, List.set_cons_succ]; rfl) ?_)
          refine Fx.done (fun w9 hC => ?_)
          have HH9 := Lib.hid (HH4.out.ext' hC)
          clear hC n0 n1 nl hcb hlb c1 lb HH4 HO74 HO84
          have Hτ : Hid (putW (takeS σ (l.take k)) x = σk) := Lib.hid (by rw [Hσk.out]; exact hτ)
          have HNt : Hid (N.length + σk.wt.length ≤ 1000001) := Lib.hid (by have := Hsum.out; omega)
          clear hτ ho2d
          generalize σk = τ at *
          obtain ⟨L, hL⟩ : ∃ L, drain τ = L := ⟨_, rfl⟩
          have hLl : N.length + L.length ≤ 1000001 := by rw [← hL]; have := drain_len τ; have := HNt.out; omega
          have HLl := Lib.hid hLl
          have HLd := Lib.hid hL
          have hcb := HH9.out.bb.cell 0 (by decide)
          have hlb := HH9.out.bb.lt
          clear hL hLl
          gi_upto_region 9 with fail
          refine wpIn_region_line hF [(0,1),(1,2)] (by kernel_rfl) (by kernel_rfl) (Ext w9) (fun _ _ h k => h.trans k) (Ext.refl _) ?_
          first
            | refine Fx.skip rfl rfl (by simp only [List.set_cons_zero, List.set_cons_succ]; rfl) ?_
            | (with_reducible refine Fx.lab0 ?_
               first
                 | refine Fx.moveT rfl rfl rfl (by simp only [List.set_cons_zero, List.set_cons_succ]; rfl) ?_
                 | refine Fx.assignT rfl rfl rfl (by simp only [List.set_cons_zero, List.set_cons_succ]; rfl) ?_
                 | refine Fx.pure_ rfl rfl (fun _ => by go_simp; first | done | rfl) (by simp only [List.set_cons_zero, List.set_cons_succ]; rfl) ?_)
            | (with_reducible refine Fx.lab1 ?_
               refine Fx.look rfl rfl (fun w' hC => by obtain ⟨hc, hf, hl⟩ := Ext.cells hC; go_simp; rfl) (by simp only [List.set_cons_zero, List.set_cons_succ]; rfl) ?_)
          refine Fx.mkBy (β := Nat) (fun p => .func (.func 42) #[] #[.pointer (some ⟨p, 0, none⟩)])
            (fun p w' => w9.heap.size ≤ p ∧ Obj_ w' p 1 (fun _ => .pointer (some ⟨b, 0, none⟩))) (fun p _ _ h k => ⟨h.1, h.2.ext k⟩) rfl rfl (fun w'' hC => ?_) (fun Bq => ?_)
          · unfold stepAt
            rw [show (execOp _ _).run Try.prog w'' = .ok (.enter 37 #[.pointer (some ⟨b, 0, none⟩)]) w'' from by first | (go_simp; done) | (go_simp; rfl)]
            exact (ready_at w'' b).mono (fun e w3 hh => by
              obtain ⟨Bn, rfl, h1, h2, h3⟩ := hh
              have := hC.size
              exact ⟨_, rfl, Bn, rfl, h1, by omega, h3⟩)
          simp only [List.set_cons_zero, List.set_cons_succ]
          refine Fx.done (fun w0 hC => ?_)
          obtain ⟨hC0, hq1, oq⟩ := hC
          have HH0 := Lib.hid (HH9.out.ext' hC0)
          have hP : TkP w w0 b mw mb w.heap.size B5 rs := ⟨HH0.out.e.size, HFF.out, Nat.le_refl _, HH0.out.bb.lt, hb5, HH0.out.b5.lt, hne, fun r hr => ⟨(HH0.out.kp r hr).2.1, (Array.getElem?_eq_some_iff.1 (HH0.out.kp r hr).1).1, (HH0.out.kp r hr).2.2⟩⟩
          have HP := Lib.hid hP
          have hnq : nv.ownBlock ≠ some Bq := fun h => by have := HH9.out.own.lt h; omega
          have hq2 : w.heap.size ≤ Bq := Nat.le_trans HH9.out.e.size hq1
          have hq5 : Bq ≠ B5 := fun e => by have := HH9.out.b5.lt; omega
          have HI0 : Hid (TkI w w0 b mw mb w.heap.size B5 Bq rs τ L N 0 (TkT b mw B5 nv) w0) := Lib.hid ⟨nv, ⟨HH0.out.fw, HH0.out.bb, HH0.out.b5, by rw [List.take_zero, List.append_nil]; exact HH0.out.own, fun x hx => ⟨(HH0.out.nf x hx).1, (HH0.out.nf x hx).2.1, (HH0.out.nf x hx).2.2.1, (HH0.out.nf x hx).2.2.2, fun h => by have := HH0.out.own.lt hx; unfold Bk at h; omega⟩, fun r hr => (HH0.out.kp r hr).1, HH0.out.e⟩, fun _ => Iff.rfl, oq, hnq⟩
          have Hq25 := Lib.hid (And.intro hq2 hq5)
          have Hql := Lib.hid oq.lt
          have Hnd := Lib.hid HH0.out.nd
          clear hP oq hq1 hq2 hq5 hnq hC0 hcb hlb HH9 HH0
          gi_wp2
          refine rangeFunc_lawT hF rfl (gf := 42) (lb := #[.pointer (some ⟨Bq, 0, none⟩)]) ?hg (fun args w => callFunc_at _ (by kernel_rfl) args w)
            L.length (fun k => #[plV (τ.ep, (stK τ k).nx), (L.getD k ms0).val]) (fun _ _ => rfl) (TkI w w0 b mw mb w.heap.size B5 Bq rs τ L N) (fun k W => W.cell? ⟨Bq, 0, none⟩ = some (.pointer (some ⟨b, 0, none⟩)) ∧ FwAt W b mw mb (stK τ k)) (fun _ _ _ => False)
            ?hII ?hTB ?hTl ?hI ?hIx (TkT b mw B5 nv) ?hT0 ?h0 ?hseq (TkA w w0 b mw mb w.heap.size B5 Bq rs τ L N) ?hA ?hassign ?hbody ?hdone ?hstop
          case hg => rfl
          case hII => exact fun k T W h => let ⟨_, h1, _, h3, _⟩ := h; ⟨h3.cell 0 (by decide), h1.fw⟩
          case hTB => exact fun k T W h x hx ht => let ⟨_, h1, h2, _⟩ := h; h1.nb HP.out x hx ((h2 x).1 ht)
          case hTl => exact fun k T W h x hx => let ⟨_, h1, h2, _⟩ := h; h1.lt x ((h2 x).1 hx)
          case hI => exact fun k T W W' S h hm hS => h.mods HP.out Hql.out hm hS
          case hIx => exact fun _ _ _ _ h _ => h.elim
          case hT0 => exact fun x hx => (let ⟨_, h1, h2, _⟩ := HI0.out; h1.lt x ((h2 x).1 hx))
          case h0 => exact HI0.out
          case hseq =>
            intro W hm
            have := ready_iter hF rfl (5 - 1) (fun k W => W.cell? ⟨Bq, 0, none⟩ = some (.pointer (some ⟨b, 0, none⟩)) ∧ FwAt W b mw mb (stK τ k)) b mw mb τ Bq (fun k W h => h) W
            rwa [HLd.out] at this
          case hA =>
            rintro k T a' W W' ⟨h1, B11, B12, ⟨h2, h2'⟩, ⟨h3, h3'⟩, h4, h5, h6⟩ hm
            exact ⟨h1.mods HP.out Hql.out hm (fun x hx => ⟨by unfold Bk at hx; omega, fun ht => by obtain ⟨nv', g1, g2, -⟩ := h1; exact g1.nb HP.out x hx ((g2 x).1 ht)⟩), B11, B12, ⟨h2, h2'⟩, ⟨h3, h3'⟩, h4.mods hm (by unfold Bk; omega), h5.mods hm (by unfold Bk; omega), h6⟩
          case hassign =>
            intro q k T W hk hi hs
            have Hi := Lib.hid hi
            clear hi
            obtain ⟨y, hy⟩ : ∃ y, L.getD k ms0 = y := ⟨_, rfl⟩
            obtain ⟨pk, hpk⟩ : ∃ pk, (τ.ep, (stK τ k).nx) = pk := ⟨_, rfl⟩
            rw [hy, hpk]
            have Hy := Lib.hid hy
            have Hpk := Lib.hid hpk
            clear hy hpk
            simp only [List.zip_toArray, List.zip_cons_cons, List.zip_nil_left, List.zip_nil_right, List.foldl_toArray, List.foldl_toArray', List.foldl_cons, List.foldl_nil, List.setIfInBounds_toArray, List.set_cons_succ, List.set_cons_zero]
            have hFq := hF.inRound q
            gi_upto_region 10 with fail
            refine wpIn_region_line hFq [(0,2),(1,3)] (by kernel_rfl) (by kernel_rfl) (Ext W) (fun _ _ h k => h.trans k) (Ext.refl _) ?_
            refine Fx.mkPtr (fun B w' => W.heap.size ≤ B ∧ Obj_ w' B 2 (plF (0, 0))) (fun B _ _ h k => ⟨h.1, h.2.ext k⟩) rfl rfl (fun w' hC => stepAt_alloc_Pl hC) (fun B11 => ?_)
            simp only [List.set_cons_zero, List.set_cons_succ]
            refine Fx.eff0 (PlPre W B11 pk) (plPre_stable _ _ _) rfl rfl (fun w' hC => stepAt_mono (stepAt_store_Pl hC.1 hC.2.1 hC.2.2 pk rfl rfl) (fun _ w'' h => ⟨h.1, hC.2.1, h.2⟩)) ?_
            refine Fx.done (fun w3 hC => ?_)
            have HC3 := Lib.hid hC
            clear hC
            gi_upto_region 11 with fail
            refine wpIn_region_line hFq [(0,2),(1,3)] (by kernel_rfl) (by kernel_rfl) (Ext w3) (fun _ _ h k => h.trans k) (Ext.refl _) ?_
            refine Fx.mkPtr (fun B w' => w3.heap.size ≤ B ∧ Obj_ w' B 3 (msF ms0)) (fun B _ _ h k => ⟨h.1, h.2.ext k⟩) rfl rfl (fun w' hC => stepAt_alloc_Ms hC) (fun B12 => ?_)
            simp only [List.set_cons_zero, List.set_cons_succ]
            refine Fx.eff0 (MsPre w3 B12 y) (msPre_stable _ _ _) rfl rfl (fun w' hC => stepAt_mono (stepAt_store_Ms hC.1 hC.2.1 hC.2.2 y rfl rfl) (fun _ w'' h => ⟨h.1, hC.2.1, h.2⟩)) ?_
            refine Fx.done (fun w4 hC => ?_)
            obtain ⟨g1, g2, g3⟩ := HC3.out
            obtain ⟨f1, f2, f3⟩ := hC
            have hsz := g1.size
            have hTl : ∀ x, T x → x < W.heap.size := fun x hx => by obtain ⟨nv', e1, e2, -⟩ := Hi.out; exact e1.lt x ((e2 x).1 hx)
            exact ⟨g1.trans f1, Hi.out.mods HP.out Hql.out ((g1.trans f1).mods (fun _ => False)) (fun _ h => h.elim), B11, B12, ⟨by omega, fun h => by have := hTl _ h; omega⟩, ⟨by omega, fun h => by have := hTl _ h; omega⟩, by rw [Hpk.out]; exact g3.ext f1, by rw [Hy.out]; exact f3, ⟨rfl, rfl, rfl, rfl, rfl, rfl⟩⟩
          case hbody =>
            rintro q k T ⟨tm2, df2⟩ W hk ⟨hi, B11, B12, hB11, hB12, hO11, hO12, hA2⟩ hs
            have hFq := hF.inRound q
            obtain ⟨z, g2, g5, g11, g12, gd⟩ := hA2
            simp only at z g2 g5 g11 g12 gd
            have hfr2 := fr73 z
            obtain ⟨u2, hu2⟩ : ∃ u : Nat → Value, (fun i => tm2.getD i undef) = u := ⟨_, rfl⟩
            have gg : ∀ i, tm2.getD i undef = u2 i := fun i => by rw [← hu2]
            rw [gg] at g2 g5 g11 g12
            rw [hu2] at hfr2
            clear z hu2 gg
            subst hfr2
            subst gd
            obtain ⟨nk, hnk⟩ : ∃ nk, (stK τ k).nx = nk := ⟨_, rfl⟩
            obtain ⟨y, hy⟩ : ∃ y, L.getD k ms0 = y := ⟨_, rfl⟩
            have htk2 : L.take (k + 1) = L.take k ++ [y] := by
              rw [List.take_succ_eq_append_getElem hk]
              have : L[k] = y := by rw [← hy, List.getD_eq_getElem?_getD, List.getElem?_eq_getElem hk]; rfl
              rw [this]
            have htk : stK τ (k + 1) = { ep := (stK τ k).ep, nx := IntKind.u32.wrap (nk + 1), wt := kdel (τ.ep, nk) (stK τ k).wt, bf := (stK τ k).bf } := by
              show stepD (stK τ k) = _
              unfold stepD
              rw [show kdel ((stK τ k).ep, (stK τ k).nx) (stK τ k).wt = kdel (τ.ep, nk) (stK τ k).wt by rw [stK_ep, hnk], hnk]
            rw [hnk] at hO11
            rw [hy] at hO12
            obtain ⟨nv', hS, hT, hoq, hqn⟩ := hi
            have HqN := Lib.hid hqn
            have HTK := Lib.hid htk
            have HTK2 := Lib.hid htk2
            have HS := Lib.hid hS
            have HT := Lib.hid hT
            have HOq := Lib.hid hoq
            have H11 := Lib.hid hO11
            have H12 := Lib.hid hO12
            have hT11 : ¬ TkT b mw B5 nv' B11 := fun h => hB11.2 ((hT _).2 h)
            have hT12 : ¬ TkT b mw B5 nv' B12 := fun h => hB12.2 ((hT _).2 h)
            have HT11 := Lib.hid hT11
            have HT12 := Lib.hid hT12
            have hcb := hS.bb.cell 0 (by decide)
            have hlb := hS.bb.lt
            obtain ⟨c0, c1, c2, c3, lb⟩ := hS.fw.cells
            rw [hnk] at c1
            have p0 := hO11.cell 0 (by decide)
            have p1 := hO11.cell 1 (by decide)
            have pl := hO11.lt
            simp only [plF, List.getD_cons_zero, List.getD_cons_succ] at p0 p1
            have Hnk := Lib.hid hnk
            have hB11' := hB11.1
            have hB12' := hB12.1
            clear hqn hy htk htk2 hS hT hoq hO11 hO12 hT11 hT12 c0 c3 hnk hB11 hB12
            simp only [frN, Nat.reduceAdd, g2, g5, g11, g12]
            clear g2 g5 g11 g12
            gi_upto_region 12 with fail
            refine wpIn_region_plan hFq [(0,1),(1,0),(2,0),(3,1),(4,1),(5,3)] (by kernel_rfl) (by kernel_rfl) (by kernel_rfl) (Ext W) (fun _ _ h k => h.trans k) (Ext.drawn _ _) ?_
            iterate 4
              first
                | refine Fx.skip rfl rfl (by simp only [List.set_cons_zero, List.set_cons_succ]; rfl) ?_
                | (with_reducible refine Fx.lab0 ?_
                   first
                     | refine Fx.moveT rfl rfl rfl (by simp only [List.set_cons_zero, List.set_cons_succ]; rfl) ?_
                     | refine Fx.assignT rfl rfl rfl (by simp only [List.set_cons_zero, List.set_cons_succ]; rfl) ?_
                     | refine Fx.pure_ rfl rfl (fun _ => by go_simp; first | done | rfl) (by simp only [List.set_cons_zero, List.set_cons_succ]; rfl) ?_)
                | (with_reducible refine Fx.lab1 ?_
                   refine Fx.look rfl rfl (fun w' hC => by obtain ⟨hc, hf, hl⟩ := Ext.cells hC; go_simp; rfl) (by simp only [List.set_cons_zero, List.set_cons_succ]; rfl) ?_)
            refine Fx.look rfl rfl (op_load_Pl' (f := τ.ep) (c := nk) pl p0 p1 rfl) (by simp only [List.set_cons_zero, List.set_cons_succ]; rfl) ?_
            refine Fx.eff0 (fun w' => MapIs w' mw plV Ms.val (kdel (τ.ep, nk) (stK τ k).wt) ∧ Mods (· = mw) W w') (fun _ _ h k => ⟨h.1.ext k, h.2.then_ k⟩) rfl rfl (fun w' hC => ?_) ?_
            · exact stepAt_mono (stepAt_del (k := (τ.ep, nk)) (HS.out.fw.wm.ext hC) keysPl Try.underlying69 rfl rfl) (fun _ w'' hh => ⟨hh.1, hh.2.after hC⟩)
            refine Fx.done (fun wa hC => ?_)
            have hfa := HS.out.fw.putW hC.1 hC.2
            have HSa := Lib.hid (HS.out.fw' HP.out hfa (hC.2.mono (fun _ _ h => .inr (.inl h))))
            have Ma := Lib.hid (hC.2.mono (T := TkT b mw B5 nv') (fun _ _ h => .inr (.inl h)))
            clear hC hcb hlb c1 c2 lb p0 p1 pl hfa
            have hcb := HSa.out.bb.cell 0 (by decide)
            have hlb := HSa.out.bb.lt
            obtain ⟨c0, c1, c2, c3, lb⟩ := HSa.out.fw.cells
            have f1 := HSa.out.fw.o.free 1
            simp only [Hnk.out] at c1
            clear c0 c2 c3
            gi_upto_region 13 with fail
            refine wpIn_region_line hFq [(0,1),(1,0),(2,0),(3,1),(4,0),(5,0),(6,0),(7,3)] (by kernel_rfl) (by kernel_rfl) (Ext wa) (fun _ _ h k => h.trans k) (Ext.refl _) ?_
            iterate 7
              first
                | refine Fx.skip rfl rfl (by simp only [List.set_cons_zero, List.set_cons_succ]; rfl) ?_
                | (with_reducible refine Fx.lab0 ?_
                   first
                     | refine Fx.moveT rfl rfl rfl (by simp only [List.set_cons_zero, List.set_cons_succ]; rfl) ?_
                     | refine Fx.assignT rfl rfl rfl (by simp only [List.set_cons_zero, List.set_cons_succ]; rfl) ?_
                     | refine Fx.pure_ rfl rfl (fun _ => by go_simp; first | done | rfl) (by simp only [List.set_cons_zero, List.set_cons_succ]; rfl) ?_)
                | (with_reducible refine Fx.lab1 ?_
                   refine Fx.look rfl rfl (fun w' hC => by obtain ⟨hc, hf, hl⟩ := Ext.cells hC; go_simp; rfl) (by simp only [List.set_cons_zero, List.set_cons_succ]; rfl) ?_)
            refine Fx.store ⟨b, 1, none⟩ (.int .u32 (IntKind.u32.wrap (nk + 1))) rfl rfl (fun w' hC => by obtain ⟨hc, hf, hl⟩ := Ext.cells hC; go_simp) ?_
            refine Fx.done (fun w2 hC => ?_)
            obtain ⟨wb, hb1, hb2⟩ := hC
            have hfb := (HSa.out.fw.ext hb1).setN (IntKind.u32.wrap (nk + 1)) hb2
            have mb2 : Mods (· = b) wa w2 := (hb1.mods _).trans ((Mods.setCell wb b 1 _).then_ hb2) (fun _ _ h => h)
            have HSb := Lib.hid (HSa.out.fw' HP.out hfb (mb2.mono (fun _ _ h => .inl h)))
            have Mb := Lib.hid (Ma.out.trans mb2 (fun _ _ h => .inl h))
            have h12b := Lib.hid (H12.out.mods Mb.out HT12.out)
            clear hb1 hb2 hfb mb2 hcb hlb c1 f1 lb
            obtain ⟨d0, d1, d2⟩ := h12b.out.ms
            have dl := h12b.out.lt
            have hc5 := HSb.out.b5.cell 0 (by decide)
            have hf5 := HSb.out.b5.free 0
            have hl5 := HSb.out.b5.lt
            obtain ⟨sA, scap, hsv, -⟩ := HSb.out.own.val
            have hNl : (N ++ L.take k).length + 1 ≤ 1073741824 := by rw [List.length_append, List.length_take]; have := HLl.out; omega
            have HNlk := Lib.hid hNl
            have hn5 : ¬ nv'.ownBlock = some B5 := fun h => (HSb.out.nf _ h).2.2.1 rfl
            have HN5 := Lib.hid hn5
            obtain ⟨nq, hnq⟩ : ∃ nq, (N ++ L.take k).length = nq := ⟨_, rfl⟩
            rw [hnq] at hsv
            clear hNl hn5 hnq
            subst hsv
            gi_upto_region 14 with fail
            refine wpIn_region_line hFq [(0,1),(1,1),(2,2),(3,3),(4,3)] (by kernel_rfl) (by kernel_rfl) (Ext w2) (fun _ _ h k => h.trans k) (Ext.refl _) ?_
            first
              | refine Fx.skip rfl rfl (by simp only [List.set_cons_zero, List.set_cons_succ]; rfl) ?_
              | (with_reducible refine Fx.lab0 ?_
                 first
                   | refine Fx.moveT rfl rfl rfl (by simp only [List.set_cons_zero, List.set_cons_succ]; rfl) ?_
                   | refine Fx.assignT rfl rfl rfl (by simp only [List.set_cons_zero, List.set_cons_succ]; rfl) ?_
                   | refine Fx.pure_ rfl rfl (fun _ => by go_simp; first | done | rfl) (by simp only [List.set_cons_zero, List.set_cons_succ]; rfl) ?_)
              | (with_reducible refine Fx.lab1 ?_
                 refine Fx.look rfl rfl (fun w' hC => by obtain ⟨hc, hf, hl⟩ := Ext.cells hC; go_simp; rfl) (by simp only [List.set_cons_zero, List.set_cons_succ]; rfl) ?_)
            refine Fx.look rfl rfl (op_load_Ms' (m := y) dl d0 d1 d2 rfl) (by simp only [List.set_cons_zero, List.set_cons_succ]; rfl) ?_
            refine Fx.mkSl 1 1 (fun B w' => MsL w' (.slice (some ⟨B, 0, none⟩) 1 1) [y]) (fun B _ _ h k => h.ext k) rfl rfl (fun w' hC => stepAt_lit1 hC y rfl) (fun B2 => ?_)
            simp only [List.set_cons_zero, List.set_cons_succ]
            refine Fx.eff (fun v' w' => OwnMs w' v' ((N ++ L.take k) ++ [y]) ∧ Mods (fun c => Value.ownBlock (.slice sA nq scap) = some c) w2 w' ∧ (∀ c, v'.ownBlock = some c → Value.ownBlock (.slice sA nq scap) = some c ∨ w2.heap.size ≤ c)) (fun v _ _ h k => ⟨h.1.ext k, h.2.1.then_ k, h.2.2⟩) rfl rfl
              (fun w' hC => stepAt_append hC.1 (HSb.out.own.ext hC.1) hC.2 (by have := HNlk.out; simp at this ⊢; omega) rfl rfl) (fun v3 => ?_)
            simp only [List.set_cons_zero, List.set_cons_succ]
            refine Fx.store ⟨B5, 0, none⟩ v3 rfl rfl (fun w' hC => by
              obtain ⟨hc, hf, hl⟩ := hC.2.1.cells
              have e1 := (hc B5 0 hl5 HN5.out).trans hc5
              have e2 := (hf B5 0 hl5 HN5.out).trans hf5
              obtain ⟨A3, n3, c3, rfl⟩ : ∃ A n cap, v3 = .slice A n cap := by obtain ⟨A, cap, e, _⟩ := hC.1.val; exact ⟨_, _, _, e⟩
              clear hc hf hl hC
              go_simp) ?_
            refine Fx.done (fun w4 hC => ?_)
            obtain ⟨w3, ⟨a1, a2, a3⟩, a4⟩ := hC
            have hsb : w0.heap.size + 2 ≤ w2.heap.size := by have := Mb.out.size; omega
            have hSc := HSb.out.grow HP.out hsb a1 a2 a3 a4
            have m3 : Mods (TkT b mw B5 (.slice sA nq scap)) w2 w4 := (a2.mono (T := TkT b mw B5 (.slice sA nq scap)) (fun _ _ h => .inr (.inr (.inr h)))).trans ((Mods.setCell w3 B5 0 v3).then_ a4) (fun _ _ h => .inr (.inr (.inl h)))
            have HSc := Lib.hid hSc
            have Mc := Lib.hid (Mb.out.trans m3 (fun _ _ h => h))
            have HA3 := Lib.hid a3
            have hs2 := Mb.out.size
            clear a1 a2 a3 a4 hSc m3 d0 d1 d2 dl hc5 hf5 hl5
            gi_wp2
            refine ⟨TkT b mw B5 v3, Mc.out.mono (fun x _ h => (HT.out x).2 h), fun x hx => ?_, v3, ?_, fun _ => Iff.rfl, ?_, fun h => ?_⟩
            · rcases hx with hx | hx | hx | hx
              · exact .inl ((HT.out x).2 (.inl hx))
              · exact .inl ((HT.out x).2 (.inr (.inl hx)))
              · exact .inl ((HT.out x).2 (.inr (.inr (.inl hx))))
              · rcases HA3.out x hx with h | h
                · exact .inl ((HT.out x).2 (.inr (.inr (.inr h))))
                · exact .inr (by omega)
            · rw [HTK.out, HTK2.out, ← List.append_assoc]; exact HSc.out
            · refine HOq.out.mods Mc.out (fun h => ?_)
              have hql := Hql.out
              have hq2 := Hq25.out.1
              rcases h with h | h | h | h
              · have := HP.out.ff b (.inl rfl); omega
              · have := HP.out.ff mw (.inr (.inl rfl)); omega
              · exact Hq25.out.2 h
              · exact HqN.out h
            · rcases HA3.out _ h with h | h
              · exact HqN.out h
              · have := Hql.out; omega
          case hdone =>
            intro T W hI hD hs
            obtain ⟨nv', hS, -, -, -⟩ := hI
            rw [List.take_length] at hS
            have HS := Lib.hid hS
            have HDd := Lib.hid hD
            clear hS hD
            gi_wp2
            refine ⟨⟨k + 1, nv', w0.heap.size :: rs, by omega, ⟨rfl, rfl, rfl, rfl, rfl, rfl, rfl⟩, ?_⟩, ?_⟩
            · have e1 : takeS σ (l.take (k + 1)) = stK τ L.length := by rw [Htk.out, takeS_snoc]; show stK (putW _ _) (drain (putW _ _)).length = _; rw [Hτ.out, HLd.out]
              have e2 : takeL σ (l.take (k + 1)) = N ++ L := by rw [Htk.out, takeL_snoc, Hτ.out, HN.out, HLd.out]
              rw [e1, e2]
              refine ⟨HS.out.fw, HS.out.bb, HS.out.b5, HS.out.own, fun x hx => ?_, fun r hr => ?_, List.nodup_cons.2 ⟨fun h => by have := (HP.out.rs _ h).2.1; omega, Hnd.out⟩, HS.out.e⟩
              · obtain ⟨f1, f2, f3, f4, f5⟩ := HS.out.nf x hx
                exact ⟨f1, f2, f3, fun h => (List.mem_cons.1 h).elim (fun e => f5 (.inl e)) f4⟩
              · rcases List.mem_cons.1 hr with rfl | hr
                · exact ⟨HDd.out, HP.out.ws, fun e => by have := HP.out.bb1; omega, fun e => by have := HP.out.b51; omega⟩
                · exact ⟨HS.out.rs r hr, (HP.out.rs r hr).1, (HP.out.rs r hr).2.2⟩
            · show n - (intOf (.int .i64 ((k : Int) + 1))).toNat < n - k
              simp [intOf]; omega
          case hstop => exact fun c k W _ h => h.elim
    · have hkn : k = n := by omega
      have e1 : takeS σ (l.take k) = takeS σ l := by rw [List.take_of_length_le (by rw [Hn.out]; omega)]
      have e2 : takeL σ (l.take k) = takeL σ l := by rw [List.take_of_length_le (by rw [Hn.out]; omega)]
      rw [e1, e2] at HH
      have hc5 := HH.out.b5.cell 0 (by decide)
      have hl5 := HH.out.b5.lt
      obtain ⟨sA, scap, hsv, -⟩ := HH.out.own.val
      obtain ⟨nq, hnq⟩ : ∃ nq, (takeL σ l).length = nq := ⟨_, rfl⟩
      rw [hnq] at hsv
      subst hsv
      clear e1 e2 hnq
      gi_wp2
      have hH := HH.out
      refine leaves_marks rs wr hH.nd (fun r hr => (hH.kp r hr).1) (fun w' hm => ⟨.slice sA nq scap, by rw [results_tmp (t := 4) rfl]; rfl, .slice sA nq scap, rfl, hH.own.mods hm (fun x hx hr => (hH.nf x hx).2.2.2 hr), hH.fw.mods hm (fun x hx hr => by have := HFF.out x hx; have := (hH.kp x hr).2.1; omega), hH.e.trans hm (fun x hx hr => by have := (hH.kp x hr).2.1; omega), fun x hx => (hH.nf x hx).1⟩)
theorem take_at {w : World} {b mw mb : Nat} {σ : FwSt} (h : FwAt w b mw mb σ) (v : Value) (l : List Nb) (hl : NbL w v l) (hv : ∀ x, v.ownBlock = some x → ¬ FF b mw mb x) (hlen : σ.wt.length + l.length ≤ 1000000) :
    Calls Try.prog 28 #[.pointer (some ⟨b, 0, none⟩), v] w (TakeR w b mw mb σ l) := (callsIn_wide (n := 5)).1 (take_in h v l hl hv hlen)
end Go.Proofs.Ytokljdkeegdniaa
