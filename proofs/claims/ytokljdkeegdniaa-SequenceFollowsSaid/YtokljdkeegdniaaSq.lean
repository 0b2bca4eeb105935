/-
  sequence.Sequencer: where it lies; NewSequencer, Number.
-/
import Derived.Test.YtokljdkeegdniaaMsg
import Derived.Laws.ResultCell
namespace Go.Proofs.Ytokljdkeegdniaa
open Go.RowKit
attribute [local go_sem] Oper.semAt_some

structure SqSt where
  ep : Int
  nm : List ((Int × Int) × Int)
  all : List Nb
def sq0 (e : Int) : SqSt := ⟨e, [], []⟩
def uV (n : Int) : Value := .int .u32 n
def sqF (e : Int) (mn : Nat) (av : Value) (i : Nat) : Value := match i with | 0 => .int .u32 e | 1 => .map (some mn) | _ => av
structure SqAt (w : World) (b mn : Nat) (av : Value) (σ : SqSt) : Prop where
  o : Obj_ w b 3 (sqF σ.ep mn av)
  nm : MapIs w mn idV uV σ.nm
  all : OwnNb w av σ.all
  d1 : b ≠ mn
  d2 : ∀ x, av.ownBlock = some x → x ≠ b ∧ x ≠ mn
def FQ (b mn : Nat) (av : Value) (x : Nat) : Prop := x = b ∨ x = mn ∨ av.ownBlock = some x
theorem SqAt.mods {w w' : World} {b mn : Nat} {av : Value} {σ : SqSt} {S : Nat → Prop} (h : SqAt w b mn av σ) (he : Mods S w w') (hS : ∀ x, FQ b mn av x → ¬ S x) : SqAt w' b mn av σ :=
  ⟨h.o.mods he (hS _ (.inl rfl)), h.nm.mods he (hS _ (.inr (.inl rfl))), h.all.mods he (fun x hx => hS _ (.inr (.inr hx))), h.d1, h.d2⟩
theorem SqAt.ext {w w' : World} {b mn : Nat} {av : Value} {σ : SqSt} (h : SqAt w b mn av σ) (he : Ext w w') : SqAt w' b mn av σ := h.mods (he.mods (fun _ => False)) (fun _ _ h => h)
theorem SqAt.lt {w : World} {b mn : Nat} {av : Value} {σ : SqSt} (h : SqAt w b mn av σ) {x : Nat} (hx : FQ b mn av x) : x < w.heap.size := by
  rcases hx with rfl | rfl | hx
  · exact h.o.lt
  · exact h.nm.lt
  · exact h.all.lt hx
theorem SqAt.cells {w : World} {b mn : Nat} {av : Value} {σ : SqSt} (h : SqAt w b mn av σ) : w.cell? ⟨b, 0, none⟩ = some (.int .u32 σ.ep) ∧ w.cell? ⟨b, 1, none⟩ = some (.map (some mn)) ∧ w.cell? ⟨b, 2, none⟩ = some av ∧ b < w.heap.size :=
  ⟨h.o.cell 0 (by decide), h.o.cell 1 (by decide), h.o.cell 2 (by decide), h.o.lt⟩
theorem sqNil_at {w : World} {b mn : Nat} {av : Value} {σ : SqSt} (h : SqAt w b mn av σ) : Calls Try.prog 35 #[.pointer (some ⟨b, 0, none⟩)] w fun e w' => e = .returned (.bool false) ∧ w' = w := by
  obtain ⟨c0, c1, c2, lb⟩ := h.cells
  have hmn : ∀ w, (binOp .eql 79 (.map (some mn)) (.map none)).run Try.prog w = .ok (.bool false) w := fun w => run_eql_map_nil w _ _ _ (some mn) Try.underlying79
  clear h c0 c2
  go_enter Try.func35, Try.ntmps35
  go_wp2
  go_ret
  exact ⟨rfl, rfl⟩
theorem sqNil_nil (w : World) : Calls Try.prog 35 #[.pointer none] w fun e w' => e = .returned (.bool true) ∧ w' = w := by
  go_enter Try.func35, Try.ntmps35
  go_wp2
  go_ret
  exact ⟨rfl, rfl⟩
def NewQ (w : World) (e : Int) (x : Ending) (w' : World) : Prop := ∃ b mn, x = .returned (.pointer (some ⟨b, 0, none⟩)) ∧ SqAt w' b mn (.slice none 0 0) (sq0 e) ∧ Ext w w' ∧ w.heap.size ≤ b ∧ w.heap.size ≤ mn
set_option maxRecDepth 100000 in
theorem newQ_at (w : World) (e : Int) : Calls Try.prog 22 #[.int .u32 e] w (NewQ w e) := by
  have hmm := @run_makeMap Try.prog
  go_enter Try.func22, Try.ntmps22
  go_wp2
  go_ret
  have m1 : MapIs (w.alloc (.map #[] 0)) w.heap.size idV uV [] := MapIs.made (ek := idV) (ev := uV) w
  have e1 := Ext.alloc w (.map #[] 0)
  have e3 := Ext.alloc (w.alloc (.map #[] 0)) (.cells #[.int .u32 e, .map (some w.heap.size), .slice none 0 0] 81)
  have o := Obj_.new (w.alloc (.map #[] 0)) 81 #[.int .u32 e, .map (some w.heap.size), .slice none 0 0] (sqF e w.heap.size (.slice none 0 0)) (fun i hi => by
    simp at hi
    match i, hi with
    | 0, _ => rfl
    | 1, _ => rfl
    | 2, _ => rfl)
  have s1 : (w.alloc (.map #[] 0)).heap.size = w.heap.size + 1 := by simp
  rw [s1] at o
  exact ⟨w.heap.size + 1, w.heap.size, rfl, ⟨o, m1.ext e3, Own.nil, by omega, fun x hx => by simp [Value.ownBlock] at hx⟩, e1.trans e3, by omega, by omega⟩

theorem SqAt.grown {w w1 w2 w3 : World} {b mn : Nat} {av av' : Value} {σ : SqSt} {nm' : List ((Int × Int) × Int)} {all' : List Nb} (h : SqAt w b mn av σ) (n1 : MapIs w1 mn idV uV nm') (n2 : Mods (· = mn) w w1) (a1 : OwnNb w2 av' all')
    (a2 : Mods (fun c => av.ownBlock = some c) w1 w2) (a3 : ∀ c, av'.ownBlock = some c → av.ownBlock = some c ∨ w1.heap.size ≤ c) (st : Ext (w2.setCell ⟨b, 2, none⟩ av') w3) :
    SqAt w3 b mn av' ⟨σ.ep, nm', all'⟩ ∧ Mods (FQ b mn av) w w3 ∧ ∀ c, av'.ownBlock = some c → av.ownBlock = some c ∨ w.heap.size ≤ c := by
  have m3 : Mods (· = b) w2 w3 := (Mods.setCell w2 b 2 av').then_ st
  have hs := n2.size
  have hb := h.o.lt
  have hn := h.nm.lt
  have hab : ∀ c, av'.ownBlock = some c → c ≠ b ∧ c ≠ mn := fun c hc => by
    rcases a3 c hc with e | e
    · exact h.d2 c e
    · exact ⟨by omega, by omega⟩
  refine ⟨⟨?_, (n1.mods a2 (fun e => (h.d2 _ e).2 rfl)).mods m3 (fun e => h.d1 e.symm), a1.mods m3 (fun c hc e => (hab c hc).1 e), h.d1, hab⟩, ?_, fun c hc => (a3 c hc).imp id (fun e => by omega)⟩
  · refine ((((h.o.mods n2 h.d1).mods a2 (fun e => (h.d2 _ e).1 rfl)).set (i := 2) (by decide) av').ext st).congr (fun i hi => ?_)
    match i, hi with
    | 0, _ => rfl
    | 1, _ => rfl
    | 2, _ => rfl
  · exact ((n2.mono (T := FQ b mn av) (fun _ _ e => .inr (.inl e))).trans a2 (fun _ _ e => .inr (.inr e))).trans m3 (fun _ _ e => .inl e)
structure SqSt.Ok (σ : SqSt) : Prop where
  ix : ∀ p ∈ σ.nm, 1 ≤ p.2 ∧ p.2 ≤ σ.all.length
  len : σ.all.length ≤ 1000000
theorem sq0_ok (e : Int) : (sq0 e).Ok := ⟨by simp [sq0], by simp [sq0]⟩
/-- What Number makes of it, and what it answers. -/
def numS (σ : SqSt) (m : Ms) : SqSt := match kfind (keyM m) σ.nm with
  | some _ => σ
  | none => { σ with nm := kput (keyM m) ((σ.all.length : Int) + 1) σ.nm, all := σ.all ++ [⟨σ.ep, σ.all.length + 1, m⟩] }
def numX (σ : SqSt) (m : Ms) : Nb := match kfind (keyM m) σ.nm with
  | some n => σ.all.getD (n - 1).toNat nb0
  | none => ⟨σ.ep, σ.all.length + 1, m⟩
theorem res_num {tmps : Array Value} {B : Nat} {w : World} {x : Nb} {n : Int} (h2 : tmps.getD 4 undef = .pointer (some ⟨B, 0, none⟩)) (h3 : tmps.getD 5 undef = .int .i64 n) (h : Obj_ w B 5 (nbF x)) :
    (results Try.f23 tmps).run Try.prog w = .ok (.tuple #[x.val, .int .i64 n]) w := by
  obtain ⟨d0, d1, d2, d3, d4⟩ := h.nb
  rw [results_cell_tmp (p := 4) (u := 5) (ty := 36) rfl, h2, h3]
  have e : (asAddr (.pointer (some ⟨B, 0, none⟩))).run Try.prog w = .ok ⟨B, 0, none⟩ w := by simp [asAddr, Sem.run]
  rw [e, Result.andThen_ok]
  simp only [Nat.zero_add] at d1 d2 d3 d4
  unfold Nb.val
  simp [go_sem, loadVar, d0, d1, d2, d3, d4, Try.isAgg36, Try.sizeOf36]
def NumR (w : World) (b mn : Nat) (av : Value) (σ : SqSt) (m : Ms) (e : Ending) (w' : World) : Prop :=
  ∃ av', e = .returned (.tuple #[(numX σ m).val, .int .i64 0]) ∧ SqAt w' b mn av' (numS σ m) ∧ Mods (FQ b mn av) w w' ∧ ∀ x, av'.ownBlock = some x → av.ownBlock = some x ∨ w.heap.size ≤ x
theorem stepAt_box_Ms {a : Act} {d : Option Tmp} {x : Operand} {t : TypeId} {s : String} {af : Array Edge} {g : Option (Nat × Bool)} {W w : World} (hC : Ext W w) (m : Ms) (hx : a.eval x = m.val) :
    stepAt Try.prog ⟨d, .box 34 x, t, s, af, g⟩ a w (fun u w' => ∃ b, u = .pointer (some ⟨b, 0, none⟩) ∧ Ext w w' ∧ W.heap.size ≤ b ∧ Obj_ w' b 3 (msF m)) := by
  have hr : (execOp a.eval ⟨d, .box 34 x, t, s, af, g⟩).run Try.prog w = .ok (.value (.pointer (some ⟨w.heap.size, 0, none⟩))) (w.alloc (.cells #[.int .i64 m.f, .int .u32 m.c, .string m.d] 34)) := by
    simp only [execOp, hx]
    unfold Ms.val
    first | (go_simp; done) | (go_simp; rfl)
  unfold stepAt
  rw [hr]
  exact ⟨_, rfl, Ext.alloc _ _, hC.size, box_Ms w m⟩
theorem stepAt_put_Nb {a : Act} {d : Option Tmp} {t : TypeId} {s : String} {af : Array Edge} {g : Option (Nat × Bool)} {w : World} {B : Nat} {f : Nat → Value} {q x : Operand} (h : Obj_ w B 5 f) (m : Nb) (hq : a.eval q = .pointer (some ⟨B, 0, none⟩)) (hx : a.eval x = m.val) :
    stepAt Try.prog ⟨d, .store 36 q x, t, s, af, g⟩ a w (fun _ w' => Mods (· = B) w w' ∧ Obj_ w' B 5 (nbF m)) := by
  unfold stepAt
  simp only [execOp, Sem.run_bind, run_store_Nb h m hq hx, Result.andThen_ok]
  refine ⟨((((Mods.setCell w B 0 _).trans (Mods.setCell _ B 1 _) (fun _ _ h => h)).trans (Mods.setCell _ B 2 _) (fun _ _ h => h)).trans (Mods.setCell _ B 3 _) (fun _ _ h => h)).trans (Mods.setCell _ B 4 _) (fun _ _ h => h), ?_⟩
  refine (((((h.set (i := 0) (by omega) _).set (i := 1) (by omega) _).set (i := 2) (by omega) _).set (i := 3) (by omega) _).set (i := 4) (by omega) _).congr fun i hi => ?_
  match i, hi with
  | 0, _ => rfl
  | 1, _ => rfl
  | 2, _ => rfl
  | 3, _ => rfl
  | 4, _ => rfl
set_option maxRecDepth 100000 in
set_option maxHeartbeats 3200000 in
theorem num_nil (w : World) (m : Ms) : Calls Try.prog 23 #[.pointer none, m.val] w fun e w' => e = .returned (.tuple #[nb0.val, .int .i64 1]) ∧ Ext w w' := by
  go_enter Try.func23, Try.ntmps23
  go_upto_region 0 with fail
  refine wp_region_line [(0,2),(1,2),(2,0)] (by kernel_rfl) (by kernel_rfl) (Ext w) (fun _ _ h k => h.trans k) (Ext.refl _) ?_
  refine Fx.mkPtr (fun B w' => w.heap.size ≤ B ∧ Obj_ w' B 3 (msF m)) (fun B _ _ h k => ⟨h.1, h.2.ext k⟩) rfl rfl (fun w' hC => stepAt_box_Ms hC m rfl) (fun Bm => ?_)
  simp only [List.set_cons_zero, List.set_cons_succ]
  refine Fx.mkPtr (fun B w' => w.heap.size ≤ B ∧ Obj_ w' B 5 (nbF nb0)) (fun B _ _ h k => ⟨h.1, h.2.ext k⟩) rfl rfl (fun w' hC => stepAt_alloc_Nb hC.1) (fun B4 => ?_)
  simp only [List.set_cons_zero, List.set_cons_succ]
  first
    | refine Fx.skip rfl rfl (by simp only [List.set_cons_zero, List.set_cons_succ]; rfl) ?_
    | (with_reducible refine Fx.lab0 ?_
       first
         | refine Fx.moveT rfl rfl rfl (by simp only [List.set_cons_zero, List.set_cons_succ]; rfl) ?_
         | refine Fx.assignT rfl rfl rfl (by simp only [List.set_cons_zero, List.set_cons_succ]; rfl) ?_
         | refine Fx.pure_ rfl rfl (fun _ => by go_simp; first | done | rfl) (by simp only [List.set_cons_zero, List.set_cons_succ]; rfl) ?_)
    | (with_reducible refine Fx.lab1 ?_
       refine Fx.look rfl rfl (fun w' hC => by obtain ⟨hc, hf, hl⟩ := Ext.cells hC; go_simp; rfl) (by simp only [List.set_cons_zero, List.set_cons_succ]; rfl) ?_)
  refine Fx.done (fun w1 hC => ?_)
  obtain ⟨⟨hE1, -, -⟩, hB, hO⟩ := hC
  have HE1 := Lib.hid hE1
  have HO := Lib.hid hO
  have HB := Lib.hid hB
  clear hE1 hO hB
  go_upto_region 2 with (go_at_call 35; refine (sqNil_nil _).mono ?_; rintro e w2 ⟨rfl, rfl⟩)
  refine wp_region_line [(0,0),(1,3),(2,0)] (by kernel_rfl) (by kernel_rfl) (Ext w2) (fun _ _ h k => h.trans k) (Ext.refl _) ?_
  refine Fx.pure_ (v := nb0.val) rfl rfl (fun _ => by unfold Nb.val nb0 ms0; first | (go_simp; done) | (go_simp; rfl)) (by simp only [List.set_cons_zero, List.set_cons_succ]; rfl) ?_
  refine Fx.eff0 (fun w' => Ext w w' ∧ Obj_ w' B4 5 (nbF nb0)) (fun _ _ h k => ⟨h.1.trans k, h.2.ext k⟩) rfl rfl (fun w' hC => stepAt_store_Nb (HE1.out.trans hC) HB.out (HO.out.ext hC) nb0 rfl rfl) ?_
  first
    | refine Fx.skip rfl rfl (by simp only [List.set_cons_zero, List.set_cons_succ]; rfl) ?_
    | (with_reducible refine Fx.lab0 ?_
       first
         | refine Fx.moveT rfl rfl rfl (by simp only [List.set_cons_zero, List.set_cons_succ]; rfl) ?_
         | refine Fx.assignT rfl rfl rfl (by simp only [List.set_cons_zero, List.set_cons_succ]; rfl) ?_
         | refine Fx.pure_ rfl rfl (fun _ => by go_simp; first | done | rfl) (by simp only [List.set_cons_zero, List.set_cons_succ]; rfl) ?_)
    | (with_reducible refine Fx.lab1 ?_
       refine Fx.look rfl rfl (fun w' hC => by obtain ⟨hc, hf, hl⟩ := Ext.cells hC; go_simp; rfl) (by simp only [List.set_cons_zero, List.set_cons_succ]; rfl) ?_)
  refine Fx.done (fun w3 hC => ?_)
  have HC := Lib.hid hC
  clear hC
  go_wp2
  exact bodyPost_ret (v := .tuple #[nb0.val, .int .i64 1]) (res_num rfl rfl HC.out.2) rfl ⟨rfl, HC.out.1⟩
set_option maxRecDepth 100000 in
set_option maxHeartbeats 6400000 in
theorem num_at {w : World} {b mn : Nat} {av : Value} {σ : SqSt} (h : SqAt w b mn av σ) (hO : σ.Ok) (hl9 : σ.all.length ≤ 999999) (m : Ms) (hr : rightB m = true) : Calls Try.prog 23 #[.pointer (some ⟨b, 0, none⟩), m.val] w (NumR w b mn av σ m) := by
  have H := Lib.hid h
  have HOk := Lib.hid hO
  have Hr := Lib.hid hr
  obtain ⟨vA, vcap, rfl, -⟩ := h.all.val
  clear h hO hr
  go_enter Try.func23, Try.ntmps23
  go_upto_region 0 with fail
  refine wp_region_line [(0,2),(1,2),(2,0)] (by kernel_rfl) (by kernel_rfl) (Ext w) (fun _ _ h k => h.trans k) (Ext.refl _) ?_
  refine Fx.mkPtr (fun B w' => w.heap.size ≤ B ∧ Obj_ w' B 3 (msF m)) (fun B _ _ h k => ⟨h.1, h.2.ext k⟩) rfl rfl (fun w' hC => stepAt_box_Ms hC m rfl) (fun Bm => ?_)
  simp only [List.set_cons_zero, List.set_cons_succ]
  refine Fx.mkPtr (fun B w' => w.heap.size ≤ B ∧ Obj_ w' B 5 (nbF nb0)) (fun B _ _ h k => ⟨h.1, h.2.ext k⟩) rfl rfl (fun w' hC => stepAt_alloc_Nb hC.1) (fun B4 => ?_)
  simp only [List.set_cons_zero, List.set_cons_succ]
  first
    | refine Fx.skip rfl rfl (by simp only [List.set_cons_zero, List.set_cons_succ]; rfl) ?_
    | (with_reducible refine Fx.lab0 ?_
       first
         | refine Fx.moveT rfl rfl rfl (by simp only [List.set_cons_zero, List.set_cons_succ]; rfl) ?_
         | refine Fx.assignT rfl rfl rfl (by simp only [List.set_cons_zero, List.set_cons_succ]; rfl) ?_
         | refine Fx.pure_ rfl rfl (fun _ => by go_simp; first | done | rfl) (by simp only [List.set_cons_zero, List.set_cons_succ]; rfl) ?_)
    | (with_reducible refine Fx.lab1 ?_
       refine Fx.look rfl rfl (fun w' hC => by obtain ⟨hc, hf, hl⟩ := Ext.cells hC; go_simp; rfl) (by simp only [List.set_cons_zero, List.set_cons_succ]; rfl) ?_)
  refine Fx.done (fun w1 hC => ?_)
  obtain ⟨⟨hE1, hBm, hOm⟩, hB, hO⟩ := hC
  have HE1 := Lib.hid hE1
  have HO := Lib.hid hO
  have HB := Lib.hid hB
  have H1 := Lib.hid (H.out.ext hE1)
  have HOm := Lib.hid hOm
  obtain ⟨d0, d1, d2⟩ := hOm.ms
  have dl := hOm.lt
  have hBm' := hBm
  clear hE1 hO hB hOm hBm
  go_upto_region 3 with (go_at_call 35; refine (sqNil_at H1.out).mono ?_; rintro e w2 ⟨rfl, rfl⟩)
  refine wp_region_line [(0,1),(1,1),(2,0)] (by kernel_rfl) (by kernel_rfl) (Ext w2) (fun _ _ h k => h.trans k) (Ext.refl _) ?_
  refine Fx.look rfl rfl (op_load_Ms' (m := m) dl d0 d1 d2 rfl) (by simp only [List.set_cons_zero, List.set_cons_succ]; rfl) ?_
  refine Fx.call1 (v := .bool true) (args := #[m.val]) rfl rfl (fun _ => by first | (go_simp; done) | (go_simp; rfl)) (fun w' hC => (right_ids m w').mono (fun e w'' hh => by rw [Hr.out] at hh; exact hh)) (by simp only [List.set_cons_zero, List.set_cons_succ]; rfl) ?_
  first
    | refine Fx.skip rfl rfl (by simp only [List.set_cons_zero, List.set_cons_succ]; rfl) ?_
    | (with_reducible refine Fx.lab0 ?_
       first
         | refine Fx.moveT rfl rfl rfl (by simp only [List.set_cons_zero, List.set_cons_succ]; rfl) ?_
         | refine Fx.assignT rfl rfl rfl (by simp only [List.set_cons_zero, List.set_cons_succ]; rfl) ?_
         | refine Fx.pure_ rfl rfl (fun _ => by go_simp; first | done | rfl) (by simp only [List.set_cons_zero, List.set_cons_succ]; rfl) ?_)
    | (with_reducible refine Fx.lab1 ?_
       refine Fx.look rfl rfl (fun w' hC => by obtain ⟨hc, hf, hl⟩ := Ext.cells hC; go_simp; rfl) (by simp only [List.set_cons_zero, List.set_cons_succ]; rfl) ?_)
  refine Fx.done (fun w3 hC => ?_)
  obtain ⟨xc, xf, xl⟩ := hC.cells
  replace d0 := (xc _ _ dl).trans d0
  replace d1 := (xc _ _ dl).trans d1
  replace d2 := (xc _ _ dl).trans d2
  replace dl := xl _ dl
  have H3 := Lib.hid (H1.out.ext hC)
  have HE3 := Lib.hid (HE1.out.trans hC)
  have HO3 := Lib.hid (HO.out.ext hC)
  have HOm3 := Lib.hid (HOm.out.ext hC)
  clear xc xf xl hC H1 HE1 HO HOm
  obtain ⟨o, ho⟩ : ∃ o, kfind (m.f, m.c) σ.nm = o := ⟨_, rfl⟩
  have Ho := Lib.hid ho
  clear ho
  obtain ⟨c0, c1, c2, lb⟩ := H3.out.cells
  clear c0 c2
  go_upto_region 5 with fail
  refine wp_region_plan [(0,0),(1,0),(2,0),(3,1),(4,0),(5,1),(6,1),(7,0),(8,0),(9,0),(10,0),(11,0)] (by kernel_rfl) (by kernel_rfl) (by kernel_rfl) (Ext w3) (fun _ _ h k => h.trans k) (Ext.drawn _ _) ?_
  iterate 5
    first
      | refine Fx.skip rfl rfl (by simp only [List.set_cons_zero, List.set_cons_succ]; rfl) ?_
      | (with_reducible refine Fx.lab0 ?_
         first
           | refine Fx.moveT rfl rfl rfl (by simp only [List.set_cons_zero, List.set_cons_succ]; rfl) ?_
           | refine Fx.assignT rfl rfl rfl (by simp only [List.set_cons_zero, List.set_cons_succ]; rfl) ?_
           | refine Fx.pure_ rfl rfl (fun _ => by go_simp; first | done | rfl) (by simp only [List.set_cons_zero, List.set_cons_succ]; rfl) ?_)
      | (with_reducible refine Fx.lab1 ?_
         refine Fx.look rfl rfl (fun w' hC => by obtain ⟨hc, hf, hl⟩ := Ext.cells hC; go_simp; rfl) (by simp only [List.set_cons_zero, List.set_cons_succ]; rfl) ?_)
  refine Fx.look rfl rfl (op_load_Id' dl d0 d1 rfl) (by simp only [List.set_cons_zero, List.set_cons_succ]; rfl) ?_
  refine Fx.look (v := .tuple #[.int .u32 (o.getD 0), .bool o.isSome]) rfl rfl (fun w' hC => by rw [op_look (k := (m.f, m.c)) (H3.out.nm.ext hC) keysId Try.underlying79 (Try.zeroValue22 w') rfl rfl, Ho.out]; cases o <;> rfl) (by simp only [List.set_cons_zero, List.set_cons_succ]; rfl) ?_
  iterate 5
    first
      | refine Fx.skip rfl rfl (by simp only [List.set_cons_zero, List.set_cons_succ]; rfl) ?_
      | (with_reducible refine Fx.lab0 ?_
         first
           | refine Fx.moveT rfl rfl rfl (by simp only [List.set_cons_zero, List.set_cons_succ]; rfl) ?_
           | refine Fx.assignT rfl rfl rfl (by simp only [List.set_cons_zero, List.set_cons_succ]; rfl) ?_
           | refine Fx.pure_ rfl rfl (fun _ => by go_simp; first | done | rfl) (by simp only [List.set_cons_zero, List.set_cons_succ]; rfl) ?_)
      | (with_reducible refine Fx.lab1 ?_
         refine Fx.look rfl rfl (fun w' hC => by obtain ⟨hc, hf, hl⟩ := Ext.cells hC; go_simp; rfl) (by simp only [List.set_cons_zero, List.set_cons_succ]; rfl) ?_)
  refine Fx.done (fun w4 hC => ?_)
  have H4 := Lib.hid (H3.out.ext hC)
  have HE4 := Lib.hid (HE3.out.trans hC)
  have HO4 := Lib.hid (HO3.out.ext hC)
  have HOm4 := Lib.hid (HOm3.out.ext hC)
  clear hC d0 d1 d2 dl c1 lb H3 HE3 HO3 HOm3
  cases o with
  | some n =>
    have hn := HOk.out.ix _ (kfind_mem Ho.out)
    obtain ⟨k, rfl⟩ : ∃ k : Nat, n = (k : Int) + 1 := ⟨(n - 1).toNat, by omega⟩
    have hk : k < σ.all.length := by omega
    have hwk : IntKind.u32.wrap ((k : Int) + 1 - 1) = k := by rw [show (k : Int) + 1 - 1 = k by omega]; exact IntWalk.u32_in _ ⟨by omega, by omega⟩
    have hwk2 : IntKind.u32.wrap (k : Int) = k := IntWalk.u32_in _ ⟨by omega, by omega⟩
    have hkI : (k : Int) < σ.all.length := by omega
    have hx : numX σ m = σ.all[k] := by unfold numX keyM; rw [Ho.out]; simp [hk]
    have hs : numS σ m = σ := by unfold numS keyM; rw [Ho.out]
    have Hx := Lib.hid hx
    have Hs := Lib.hid hs
    obtain ⟨c0, c1, c2, lb⟩ := H4.out.cells
    obtain ⟨jb, joff, hjA, hjl, hN⟩ := Sl.atN (H4.out.all.sl Nb.len) hk
    subst hjA
    obtain ⟨x, hxx⟩ : ∃ x, σ.all[k] = x := ⟨_, rfl⟩
    rw [hxx] at hN Hx
    clear c0 c1 hn hx hs hxx
    simp only [Option.getD_some, Option.isSome_some]
    go_upto_region 10 with fail
    refine wp_region_line [(0,0),(1,0),(2,0),(3,1),(4,0),(5,0),(6,0),(7,1),(8,3),(9,0)] (by kernel_rfl) (by kernel_rfl) (Ext w4) (fun _ _ h k => h.trans k) (Ext.refl _) ?_
    iterate 7
      first
        | refine Fx.skip rfl rfl (by simp only [List.set_cons_zero, List.set_cons_succ]; rfl) ?_
        | (with_reducible refine Fx.lab0 ?_
           first
             | refine Fx.moveT rfl rfl rfl (by simp only [List.set_cons_zero, List.set_cons_succ]; rfl) ?_
             | refine Fx.assignT rfl rfl rfl (by simp only [List.set_cons_zero, List.set_cons_succ]; rfl) ?_
             | refine Fx.pure_ rfl rfl (fun _ => by go_simp; first | done | rfl) (by simp only [List.set_cons_zero, List.set_cons_succ]; rfl) ?_)
        | (with_reducible refine Fx.lab1 ?_
           refine Fx.look rfl rfl (fun w' hC => by obtain ⟨hc, hf, hl⟩ := Ext.cells hC; go_simp; rfl) (by simp only [List.set_cons_zero, List.set_cons_succ]; rfl) ?_)
    refine Fx.look rfl rfl (op_load_Nb' (m := x) hjl hN rfl) (by simp only [List.set_cons_zero, List.set_cons_succ]; rfl) ?_
    refine Fx.eff0 (fun w' => Ext w w' ∧ SqAt w' b mn (.slice (some ⟨jb, joff, none⟩) σ.all.length vcap) σ ∧ Obj_ w' B4 5 (nbF x)) (fun _ _ h k => ⟨h.1.trans k, h.2.1.ext k, h.2.2.ext k⟩) rfl rfl (fun w' hC => stepAt_mono (stepAt_store_Nb (HE4.out.trans hC) HB.out (HO4.out.ext hC) x rfl rfl) (fun _ w'' hh => ⟨hh.1, H.out.ext hh.1, hh.2⟩)) ?_
    first
      | refine Fx.skip rfl rfl (by simp only [List.set_cons_zero, List.set_cons_succ]; rfl) ?_
      | (with_reducible refine Fx.lab0 ?_
         first
           | refine Fx.moveT rfl rfl rfl (by simp only [List.set_cons_zero, List.set_cons_succ]; rfl) ?_
           | refine Fx.assignT rfl rfl rfl (by simp only [List.set_cons_zero, List.set_cons_succ]; rfl) ?_
           | refine Fx.pure_ rfl rfl (fun _ => by go_simp; first | done | rfl) (by simp only [List.set_cons_zero, List.set_cons_succ]; rfl) ?_)
      | (with_reducible refine Fx.lab1 ?_
         refine Fx.look rfl rfl (fun w' hC => by obtain ⟨hc, hf, hl⟩ := Ext.cells hC; go_simp; rfl) (by simp only [List.set_cons_zero, List.set_cons_succ]; rfl) ?_)
    refine Fx.done (fun w5 hC => ?_)
    have HC := Lib.hid hC
    clear hC c2 lb hN hjl
    go_wp2
    exact bodyPost_ret (v := .tuple #[x.val, .int .i64 0]) (res_num rfl rfl HC.out.2.2) rfl ⟨_, by rw [Hx.out], by rw [Hs.out]; exact HC.out.2.1, HC.out.1.mods _, fun _ h => .inl h⟩
  | none =>
    obtain ⟨L, hL⟩ : ∃ L, σ.all.length = L := ⟨_, rfl⟩
    have hx : numX σ m = ⟨σ.ep, L + 1, m⟩ := by unfold numX keyM; rw [Ho.out, hL]
    have hs : numS σ m = ⟨σ.ep, kput (m.f, m.c) ((L : Int) + 1) σ.nm, σ.all ++ [⟨σ.ep, L + 1, m⟩]⟩ := by unfold numS keyM; rw [Ho.out, hL]
    rw [hL] at hl9
    have hwl : IntKind.u32.wrap (L : Int) = L := IntWalk.u32_in _ ⟨by omega, by omega⟩
    have hwl1 : IntKind.u32.wrap ((L : Int) + 1) = L + 1 := IntWalk.u32_in _ ⟨by omega, by omega⟩
    have hwl2 : IntKind.u32.wrap ((L : Int) + 1 - 1) = L := by rw [show (L : Int) + 1 - 1 = L by omega]; exact hwl
    obtain ⟨x, hxx⟩ : ∃ x : Nb, (⟨σ.ep, L + 1, m⟩ : Nb) = x := ⟨_, rfl⟩
    rw [hxx] at hx hs
    have Hx := Lib.hid hx
    have Hs := Lib.hid hs
    have Hxx := Lib.hid hxx
    have HLl := Lib.hid hL
    rw [hL] at H4 ⊢
    obtain ⟨c0, c1, c2, lb⟩ := H4.out.cells
    obtain ⟨d0, d1, d2⟩ := HOm4.out.ms
    have dl := HOm4.out.lt
    clear c0 hx hs hxx hL
    simp only [Option.getD_none, Option.isSome_none]
    go_upto_region 8 with fail
    refine wp_region_plan [(0,0),(1,0),(2,0),(3,1),(4,0),(5,1),(6,0),(7,3)] (by kernel_rfl) (by kernel_rfl) (by kernel_rfl) (Ext w4) (fun _ _ h k => h.trans k) (Ext.drawn _ _) ?_
    iterate 5
      first
        | refine Fx.skip rfl rfl (by simp only [List.set_cons_zero, List.set_cons_succ]; rfl) ?_
        | (with_reducible refine Fx.lab0 ?_
           first
             | refine Fx.moveT rfl rfl rfl (by simp only [List.set_cons_zero, List.set_cons_succ]; rfl) ?_
             | refine Fx.assignT rfl rfl rfl (by simp only [List.set_cons_zero, List.set_cons_succ]; rfl) ?_
             | refine Fx.pure_ rfl rfl (fun _ => by go_simp; first | done | rfl) (by simp only [List.set_cons_zero, List.set_cons_succ]; rfl) ?_)
        | (with_reducible refine Fx.lab1 ?_
           refine Fx.look rfl rfl (fun w' hC => by obtain ⟨hc, hf, hl⟩ := Ext.cells hC; go_simp; rfl) (by simp only [List.set_cons_zero, List.set_cons_succ]; rfl) ?_)
    refine Fx.look rfl rfl (op_load_Id' dl d0 d1 rfl) (by simp only [List.set_cons_zero, List.set_cons_succ]; rfl) ?_
    first
      | refine Fx.skip rfl rfl (by simp only [List.set_cons_zero, List.set_cons_succ]; rfl) ?_
      | (with_reducible refine Fx.lab0 ?_
         first
           | refine Fx.moveT rfl rfl rfl (by simp only [List.set_cons_zero, List.set_cons_succ]; rfl) ?_
           | refine Fx.assignT rfl rfl rfl (by simp only [List.set_cons_zero, List.set_cons_succ]; rfl) ?_
           | refine Fx.pure_ rfl rfl (fun _ => by go_simp; first | done | rfl) (by simp only [List.set_cons_zero, List.set_cons_succ]; rfl) ?_)
      | (with_reducible refine Fx.lab1 ?_
         refine Fx.look rfl rfl (fun w' hC => by obtain ⟨hc, hf, hl⟩ := Ext.cells hC; go_simp; rfl) (by simp only [List.set_cons_zero, List.set_cons_succ]; rfl) ?_)
    refine Fx.eff0 (fun w' => MapIs w' mn idV uV (kput (m.f, m.c) ((L : Int) + 1) σ.nm) ∧ Mods (· = mn) w4 w') (fun _ _ h k => ⟨h.1.ext k, h.2.then_ k⟩) rfl rfl (fun w' hC => ?_) ?_
    · exact stepAt_mono (stepAt_upd (k := (m.f, m.c)) (v := (L : Int) + 1) (H4.out.nm.ext hC) keysId Try.underlying79 rfl rfl rfl) (fun _ w'' hh => ⟨hh.1, hh.2.after hC⟩)
    refine Fx.done (fun w5 hC => ?_)
    have HN5 := Lib.hid hC
    have hb5 := (H4.out.o.mods hC.2 H4.out.d1)
    have hA5 := Lib.hid (H4.out.all.mods hC.2 (fun c hc => (H4.out.d2 c hc).2))
    have hOm5 := HOm4.out.mods hC.2 (fun e => by have := H.out.nm.lt; omega)
    have HB5 := Lib.hid hb5
    have HOm5 := Lib.hid hOm5
    clear hC c1 c2 lb d0 d1 d2 dl
    have c0 := hb5.cell 0 (by decide)
    have c2 := hb5.cell 2 (by decide)
    have f2 := hb5.free 2
    have lb := hb5.lt
    obtain ⟨d0, d1, d2⟩ := hOm5.ms
    have dl := hOm5.lt
    simp only [sqF] at c0 c2
    clear hb5 hOm5
    go_upto_region 9 with fail
    refine wp_region_plan [(0,0),(1,0),(2,0),(3,0),(4,1),(5,0),(6,0),(7,0),(8,1),(9,0),(10,1),(11,0),(12,2),(13,3),(14,0),(15,0),(16,3)] (by kernel_rfl) (by kernel_rfl) (by kernel_rfl) (Ext w5) (fun _ _ h k => h.trans k) (Ext.drawn _ _) ?_
    iterate 8
      first
        | refine Fx.skip rfl rfl (by simp only [List.set_cons_zero, List.set_cons_succ]; rfl) ?_
        | (with_reducible refine Fx.lab0 ?_
           first
             | refine Fx.moveT rfl rfl rfl (by simp only [List.set_cons_zero, List.set_cons_succ]; rfl) ?_
             | refine Fx.assignT rfl rfl rfl (by simp only [List.set_cons_zero, List.set_cons_succ]; rfl) ?_
             | refine Fx.pure_ rfl rfl (fun _ => by go_simp; first | done | rfl) (by simp only [List.set_cons_zero, List.set_cons_succ]; rfl) ?_)
        | (with_reducible refine Fx.lab1 ?_
           refine Fx.look rfl rfl (fun w' hC => by obtain ⟨hc, hf, hl⟩ := Ext.cells hC; go_simp; rfl) (by simp only [List.set_cons_zero, List.set_cons_succ]; rfl) ?_)
    refine Fx.call1 (v := .int .u32 σ.ep) (args := #[.pointer (some ⟨b, 0, none⟩)]) rfl rfl (fun _ => by first | (go_simp; done) | (go_simp; rfl)) (fun w' hC => (era_in (w := w') ((hC.cells.1 _ _ lb).trans c0)).mono (fun e w'' hh => ⟨hh.1, by rw [hh.2]; exact Ext.refl _⟩)) (by simp only [List.set_cons_zero, List.set_cons_succ]; rfl) ?_
    first
      | refine Fx.skip rfl rfl (by simp only [List.set_cons_zero, List.set_cons_succ]; rfl) ?_
      | (with_reducible refine Fx.lab0 ?_
         first
           | refine Fx.moveT rfl rfl rfl (by simp only [List.set_cons_zero, List.set_cons_succ]; rfl) ?_
           | refine Fx.assignT rfl rfl rfl (by simp only [List.set_cons_zero, List.set_cons_succ]; rfl) ?_
           | refine Fx.pure_ rfl rfl (fun _ => by go_simp; first | done | rfl) (by simp only [List.set_cons_zero, List.set_cons_succ]; rfl) ?_)
      | (with_reducible refine Fx.lab1 ?_
         refine Fx.look rfl rfl (fun w' hC => by obtain ⟨hc, hf, hl⟩ := Ext.cells hC; go_simp; rfl) (by simp only [List.set_cons_zero, List.set_cons_succ]; rfl) ?_)
    refine Fx.look rfl rfl (op_load_Ms' (m := m) dl d0 d1 d2 rfl) (by simp only [List.set_cons_zero, List.set_cons_succ]; rfl) ?_
    refine Fx.pure_ (v := x.val) rfl rfl (fun _ => by rw [← Hxx.out]; unfold Nb.val Ms.val; first | (go_simp; done) | (go_simp; rfl)) (by simp only [List.set_cons_zero, List.set_cons_succ]; rfl) ?_
    refine Fx.mkSl 1 1 (fun B w' => w5.heap.size ≤ B ∧ NbL w' (.slice (some ⟨B, 0, none⟩) 1 1) [x]) (fun B _ _ h k => ⟨h.1, h.2.ext k⟩) rfl rfl (fun w' hC => stepAt_lit1N hC x rfl) (fun B2 => ?_)
    simp only [List.set_cons_zero, List.set_cons_succ]
    refine Fx.eff (fun v' w' => OwnNb w' v' (σ.all ++ [x]) ∧ Mods (fun c => Value.ownBlock (.slice vA L vcap) = some c) w5 w' ∧ (∀ c, v'.ownBlock = some c → Value.ownBlock (.slice vA L vcap) = some c ∨ w5.heap.size ≤ c)) (fun v _ _ h k => ⟨h.1.ext k, h.2.1.then_ k, h.2.2⟩) rfl rfl
      (fun w' hC => stepAt_appendN hC.1 (hA5.out.ext hC.1) hC.2.2 (by have := HLl.out; simp; omega) rfl rfl) (fun v1 => ?_)
    simp only [List.set_cons_zero, List.set_cons_succ]
    iterate 2
      first
        | refine Fx.skip rfl rfl (by simp only [List.set_cons_zero, List.set_cons_succ]; rfl) ?_
        | (with_reducible refine Fx.lab0 ?_
           first
             | refine Fx.moveT rfl rfl rfl (by simp only [List.set_cons_zero, List.set_cons_succ]; rfl) ?_
             | refine Fx.assignT rfl rfl rfl (by simp only [List.set_cons_zero, List.set_cons_succ]; rfl) ?_
             | refine Fx.pure_ rfl rfl (fun _ => by go_simp; first | done | rfl) (by simp only [List.set_cons_zero, List.set_cons_succ]; rfl) ?_)
        | (with_reducible refine Fx.lab1 ?_
           refine Fx.look rfl rfl (fun w' hC => by obtain ⟨hc, hf, hl⟩ := Ext.cells hC; go_simp; rfl) (by simp only [List.set_cons_zero, List.set_cons_succ]; rfl) ?_)
    refine Fx.store ⟨b, 2, none⟩ v1 rfl rfl (fun w' hC => by
      obtain ⟨hc, hf, hl⟩ := hC.2.1.cells
      have hne : ¬ Value.ownBlock (.slice vA L vcap) = some b := fun h => (H4.out.d2 _ h).1 rfl
      have e1 := (hc b 2 lb hne).trans c2
      have e2 := (hf b 2 lb hne).trans f2
      obtain ⟨A3, n3, c3, rfl⟩ : ∃ A n cap, v1 = .slice A n cap := by obtain ⟨A, cap, e, _⟩ := hC.1.val; exact ⟨_, _, _, e⟩
      clear hc hf hl hC
      go_simp) ?_
    refine Fx.done (fun w7 hC => ?_)
    obtain ⟨w6, ⟨g1, g2, g3⟩, g4⟩ := hC
    obtain ⟨k1, k2, k3⟩ := H4.out.grown HN5.out.1 HN5.out.2 g1 g2 g3 g4
    obtain ⟨yA, ycap, hyv, -⟩ := k1.all.val
    have K1 := Lib.hid k1
    have K2 := Lib.hid k2
    have K3 := Lib.hid k3
    have HO7 := Lib.hid (HO4.out.mods k2 (fun h => by rw [← HLl.out] at h; have := H.out.lt h; have := HB.out; omega))
    have hlen2 : (σ.all ++ [x]).length = L + 1 := by rw [List.length_append, HLl.out]; rfl
    clear g1 g2 g3 g4 k2 k3 c0 c2 f2 lb d0 d1 d2 dl
    obtain ⟨c0, c1, c2, lb⟩ := k1.cells
    obtain ⟨jb, joff, hjA, hjl, hN⟩ := Sl.atN (j := L) (by have := k1.all.sl Nb.len; rw [hyv] at this; exact this) (by show L < (σ.all ++ [x]).length; omega)
    have hlast : (σ.all ++ [x])[L]'(by omega) = x := by
      have := HLl.out
      subst this
      simp
    simp only at hN
    rw [hlast] at hN
    subst hjA
    simp only [hlen2] at hyv
    rw [hyv] at K1 K3 c2 ⊢
    have hLI : (L : Int) < (L : Int) + 1 := by omega
    have HNb := Lib.hid hN
    clear k1 c0 c1 hlast hlen2 hyv
    go_upto_region 10 with fail
    refine wp_region_line [(0,0),(1,0),(2,0),(3,1),(4,0),(5,0),(6,0),(7,1),(8,3),(9,0)] (by kernel_rfl) (by kernel_rfl) (Ext w7) (fun _ _ h k => h.trans k) (Ext.refl _) ?_
    iterate 7
      first
        | refine Fx.skip rfl rfl (by simp only [List.set_cons_zero, List.set_cons_succ]; rfl) ?_
        | (with_reducible refine Fx.lab0 ?_
           first
             | refine Fx.moveT rfl rfl rfl (by simp only [List.set_cons_zero, List.set_cons_succ]; rfl) ?_
             | refine Fx.assignT rfl rfl rfl (by simp only [List.set_cons_zero, List.set_cons_succ]; rfl) ?_
             | refine Fx.pure_ rfl rfl (fun _ => by go_simp; first | done | rfl) (by simp only [List.set_cons_zero, List.set_cons_succ]; rfl) ?_)
        | (with_reducible refine Fx.lab1 ?_
           refine Fx.look rfl rfl (fun w' hC => by obtain ⟨hc, hf, hl⟩ := Ext.cells hC; go_simp; rfl) (by simp only [List.set_cons_zero, List.set_cons_succ]; rfl) ?_)
    refine Fx.look rfl rfl (op_load_Nb' (m := x) hjl HNb.out rfl) (by simp only [List.set_cons_zero, List.set_cons_succ]; rfl) ?_
    refine Fx.eff0 (fun w' => Mods (· = B4) w7 w' ∧ Obj_ w' B4 5 (nbF x)) (fun _ _ h k => ⟨h.1.then_ k, h.2.ext k⟩) rfl rfl (fun w' hC => stepAt_mono (stepAt_put_Nb (HO7.out.ext hC) x rfl rfl) (fun _ w'' hh => ⟨hh.1.after hC, hh.2⟩)) ?_
    first
      | refine Fx.skip rfl rfl (by simp only [List.set_cons_zero, List.set_cons_succ]; rfl) ?_
      | (with_reducible refine Fx.lab0 ?_
         first
           | refine Fx.moveT rfl rfl rfl (by simp only [List.set_cons_zero, List.set_cons_succ]; rfl) ?_
           | refine Fx.assignT rfl rfl rfl (by simp only [List.set_cons_zero, List.set_cons_succ]; rfl) ?_
           | refine Fx.pure_ rfl rfl (fun _ => by go_simp; first | done | rfl) (by simp only [List.set_cons_zero, List.set_cons_succ]; rfl) ?_)
      | (with_reducible refine Fx.lab1 ?_
         refine Fx.look rfl rfl (fun w' hC => by obtain ⟨hc, hf, hl⟩ := Ext.cells hC; go_simp; rfl) (by simp only [List.set_cons_zero, List.set_cons_succ]; rfl) ?_)
    refine Fx.done (fun w8 hC => ?_)
    have HC := Lib.hid hC
    clear hC c2 lb hN hjl
    go_wp2
    have hbB := HB.out
    have hw5 := HN5.out.2.size
    have hw4 := HE4.out.size
    have hLL := HLl.out
    subst hLL
    have hk8 := K1.out.mods HC.out.1 (fun z hz e => by
      subst e
      rcases hz with hz | hz | hz
      · have := H.out.o.lt; omega
      · have := H.out.nm.lt; omega
      · rcases K3.out _ hz with h | h
        · have := H.out.all.lt h; omega
        · have := HO4.out.lt; omega)
    exact bodyPost_ret (v := .tuple #[x.val, .int .i64 0]) (res_num rfl rfl HC.out.2) rfl ⟨_, by rw [Hx.out], by rw [Hs.out]; exact hk8, ((HE4.out.mods (FQ b mn (.slice vA σ.all.length vcap))).trans K2.out (fun _ _ h => h)).trans HC.out.1 (fun z hz e => by omega), fun z hz => (K3.out z hz).imp id (fun h => by omega)⟩
end Go.Proofs.Ytokljdkeegdniaa
