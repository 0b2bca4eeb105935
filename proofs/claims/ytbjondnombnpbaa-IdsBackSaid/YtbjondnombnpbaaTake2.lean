/-
  ids.Book.Take, where a message is the next of its origin: the whole row is taken.
-/
import Derived.Test.YtbjondnombnpbaaTake1
import Derived.Shelf.Abstract
import Derived.Test.YtbjondnombnpbaaFlex3
namespace Go.Proofs.Ytbjondnombnpbaa
open Go.RowKit
attribute [local go_sem] Oper.semAt_some

theorem callFunc_at (f : FuncId) (hf : Try.prog.funcs[f]?.map (fun x => x.body.isSome && !(x.name == "runtime.NumGoroutine")) = some true) (args : Array Value) (w : World) : (callFunc f args).run Try.prog w = .ok (.enter f args) w := by
  cases hp : Try.prog.funcs[f]? with
  | none => rw [hp] at hf; cases hf
  | some fn =>
    rw [hp] at hf
    simp only [Option.map_some, Option.some.injEq, Bool.and_eq_true, Bool.not_eq_true'] at hf
    obtain ⟨c, hc⟩ := Option.isSome_iff_exists.1 hf.1
    exact Go.Proofs.enters_of hp hf.2 hc args w

/-- Between two rounds. -/
structure TkI (w w0 : World) (b mb Bb Bq B7 : Nat) (lv : Value) (σ : BSt) (L : List Ms) (k : Nat) (T : Nat → Prop) (W : World) : Prop where
  ex : ∃ nv, (∀ x, T x ↔ (x = b ∨ x = mb ∨ x = B7 ∨ nv.ownBlock = some x)) ∧ Obj_ W B7 1 (fun _ => nv) ∧ OwnMs W nv (L.take k) ∧ (∀ y, nv.ownBlock = some y → w0.heap.size + 2 ≤ y)
  bk : BookAt W b mb lv (eatN σ (L.take k))
  bb : Obj_ W Bb 1 (fun _ => .pointer (some ⟨b, 0, none⟩))
  bq : Obj_ W Bq 1 (fun _ => .pointer (some ⟨b, 0, none⟩))
  m : Mods (FB b mb lv) w W
/-- Where the blocks lie. -/
structure TkP (w w0 : World) (b mb Bb Bq B7 : Nat) (lv : Value) : Prop where
  ws : w.heap.size ≤ w0.heap.size
  fb : ∀ x, FB b mb lv x → x < w.heap.size
  bb0 : w.heap.size ≤ Bb
  bb1 : Bb < w0.heap.size
  b70 : w.heap.size ≤ B7
  b71 : B7 < w0.heap.size
  bq0 : w.heap.size ≤ Bq
  bq1 : Bq < w0.heap.size
  ne : Bb ≠ B7
  neq : Bq ≠ B7
theorem TkI.mods {w w0 W W' : World} {b mb Bb Bq B7 : Nat} {lv : Value} {σ : BSt} {L : List Ms} {k : Nat} {T S : Nat → Prop} (hP : TkP w w0 b mb Bb Bq B7 lv) (h : TkI w w0 b mb Bb Bq B7 lv σ L k T W) (hm : Mods S W W') (hS : ∀ x, S x → w0.heap.size ≤ x ∧ ¬ T x) : TkI w w0 b mb Bb Bq B7 lv σ L k T W' := by
  obtain ⟨nv, hT, h7, hn, hf⟩ := h.ex
  have := hP.ws; have := hP.bb1; have := hP.b71; have := hP.bq1
  refine ⟨⟨nv, hT, h7.mods hm (fun hs => by have := (hS _ hs).1; omega), hn.mods hm (fun y hy hs => (hS _ hs).2 ((hT y).2 (.inr (.inr (.inr hy))))), hf⟩, h.bk.mods hm (fun x hx hs => by have := hP.fb x hx; have := (hS _ hs).1; omega), h.bb.mods hm (fun hs => by have := (hS _ hs).1; omega), h.bq.mods hm (fun hs => by have := (hS _ hs).1; omega), ?_⟩
  exact h.m.trans hm (fun x hx hs => by have := (hS _ hs).1; omega)
theorem TkI.tb {w w0 W : World} {b mb Bb Bq B7 : Nat} {lv : Value} {σ : BSt} {L : List Ms} {k : Nat} {T : Nat → Prop} (hP : TkP w w0 b mb Bb Bq B7 lv) (h : TkI w w0 b mb Bb Bq B7 lv σ L k T W) : ∀ x, Bk w0 x → ¬ T x := fun x hx ht => by
  obtain ⟨nv, hT, h7, hn, hf⟩ := h.ex
  have := hP.ws; have := hP.b71
  have h1 := hP.fb b (.inl rfl)
  have h2 := hP.fb mb (.inr (.inl rfl))
  unfold Bk at hx
  rcases (hT x).1 ht with h | h | h | h
  · omega
  · omega
  · omega
  · have := hf x h; omega
theorem TkI.tl {w w0 W : World} {b mb Bb Bq B7 : Nat} {lv : Value} {σ : BSt} {L : List Ms} {k : Nat} {T : Nat → Prop} (h : TkI w w0 b mb Bb Bq B7 lv σ L k T W) : ∀ x, T x → x < W.heap.size := fun x ht => by
  obtain ⟨nv, hT, h7, hn, hf⟩ := h.ex
  rcases (hT x).1 ht with rfl | rfl | rfl | h'
  · exact h.bk.lt (.inl rfl)
  · exact h.bk.lt (.inr (.inl rfl))
  · exact h7.lt
  · exact hn.lt h'
theorem bkF_tk {lv mv : Value} {tk : Nat → Int} {k : Nat} (hk : k < 16) (v : Int) (i : Nat) : upd (bkF lv mv tk) k (.int .u32 v) i = bkF lv mv (updI tk k v) i := by
  unfold upd bkF updI
  by_cases h : i = k
  · subst h; rw [if_pos rfl, if_pos hk, if_pos rfl]
  · rw [if_neg h]
    by_cases h0 : i < 16
    · rw [if_pos h0, if_pos h0, if_neg h]
    · rw [if_neg h0, if_neg h0]
theorem bkF_lv {lv lv' mv : Value} {tk : Nat → Int} (i : Nat) (hi : i < 18) : upd (bkF lv mv tk) 16 lv' i = bkF lv' mv tk i := by
  unfold upd bkF
  by_cases h : i = 16
  · subst h; simp
  · rw [if_neg h]
    by_cases h0 : i < 16
    · rw [if_pos h0, if_pos h0]
    · rw [if_neg h0, if_neg h0, if_neg h, if_neg h]
theorem BookAt.eaten {w1 w2 w3 : World} {b mb : Nat} {lv : Value} {σ : BSt} {x : Ms} (h : BookAt w1 b mb lv σ) (hf : x.f.toNat < 16) (h2 : MapIs w2 mb idV Ms.val (kdel (x.f, x.c) σ.wt)) (m2 : Mods (· = mb) w1 w2)
    {wa wb : World} (ha : Ext w2 wa) (hb : Ext wa wb) (h3 : Ext (wb.setCell ⟨b, x.f.toNat, none⟩ (.int .u32 x.c)) w3) : BookAt w3 b mb lv (eatS σ x) ∧ Mods (fun c => c = b ∨ c = mb) w1 w3 := by
  have m3 : Mods (· = b) wb w3 := (Mods.setCell wb b _ _).then_ h3
  have e2 := ha.trans hb
  refine ⟨⟨?_, ?_, ?_, h.d1, h.d4⟩, ?_⟩
  · exact ((((h.obj.mods m2 h.d1).ext e2).set (i := x.f.toNat) (by omega) (.int .u32 x.c)).ext h3).congr (fun i _ => bkF_tk hf x.c i)
  · exact (h2.ext e2).mods m3 (fun e => h.d1 e.symm)
  · exact ((h.log.mods m2 (fun y hy => (h.d4 y hy).2)).ext e2).mods m3 (fun y hy => (h.d4 y hy).1)
  · exact ((m2.then_ e2).mono (T := fun c => c = b ∨ c = mb) (fun c _ h => .inr h)).trans m3 (fun c _ h => .inl h)

def NvPre (W : World) (B : Nat) (w : World) : Prop := Ext W w ∧ W.heap.size ≤ B ∧ Obj_ w B 1 (fun _ => .slice none 0 0)
theorem run_alloc_sl (w : World) : (Instr.alloc 22 true (.tuple #[])).run Try.prog w = .ok (.pointer (some ⟨w.heap.size, 0, none⟩)) (w.alloc (.cells #[.slice none 0 0] 22)) := by
  simp [go_sem, Try.zeroValue22]
theorem stepAt_alloc_sl {a : Act} {d : Option Tmp} {t : TypeId} {s : String} {af : Array Edge} {g : Option (Nat × Bool)} {W w : World} (hC : Ext W w) : stepAt Try.prog ⟨d, .alloc 22, t, s, af, g⟩ a w (fun u w' => ∃ b, u = .pointer (some ⟨b, 0, none⟩) ∧ Ext w w' ∧ W.heap.size ≤ b ∧ Obj_ w' b 1 (fun _ => .slice none 0 0)) := by
  unfold stepAt
  simp only [execOp, Sem.run_bind, run_alloc_sl, Result.andThen_ok]
  exact ⟨_, rfl, Ext.alloc _ _, hC.size, Obj_.new w 22 #[.slice none 0 0] (fun _ => .slice none 0 0) (by intro i hi; simp at hi; subst hi; rfl)⟩

def tkL (m : Ms) (q : Int) (b Bb B7 Bm Bq : Nat) (v8 v30 : Value) : List Value :=
  [.pointer (some ⟨b, 0, none⟩), .agg #[.int .i64 m.f, .int .u32 m.c, .string m.d], .pointer (some ⟨Bb, 0, none⟩), .pointer (some ⟨Bb + 1, 0, none⟩), .slice none 0 0, .int .i64 0, .int .u32 q, .pointer (some ⟨B7, 0, none⟩), v8,
   .pointer (some ⟨b, 0, none⟩), .bool false, m.val, .bool true, .bool false, .pointer (some ⟨b, 0, none⟩), .pointer (some ⟨Bb + 1, 0, none⟩), .pointer (some ⟨Bb + 1, 0, none⟩), .int .i64 m.f, .int .u32 q, .pointer (some ⟨Bb + 1, 0, none⟩), .pointer (some ⟨Bb + 1, 1, none⟩), .int .u32 m.c,
   .int .u32 q, .bool false, undef, undef, undef, .pointer (some ⟨b, 0, none⟩), m.val, .func (.func 40) #[] #[.pointer (some ⟨Bm, 0, none⟩), .pointer (some ⟨Bq, 0, none⟩)], v30,
   undef, undef, undef, undef, undef, undef, undef, undef, undef, undef, undef, undef, undef, undef, undef, undef, undef, undef, undef, undef, undef, undef, undef, undef, undef, undef, undef, undef, undef, undef]
def TkA (w w0 : World) (b mb Bb Bq B7 Bm : Nat) (lv : Value) (σ : BSt) (L : List Ms) (m : Ms) (q : Int) (k : Nat) (T : Nat → Prop) (a' : Act) (W : World) : Prop :=
  TkI w w0 b mb Bb Bq B7 lv σ L k T W ∧ ∃ B8, w0.heap.size + 2 ≤ B8 ∧ ¬ T B8 ∧ Obj_ W B8 3 (msF (L.getD k ms0)) ∧ a' = Act.mk (tkL m q b Bb B7 Bm Bq (.pointer (some ⟨B8, 0, none⟩)) (L.getD k ms0).val).toArray []

set_option maxRecDepth 100000 in
set_option maxHeartbeats 3200000 in
theorem take_yes {w : World} {b mb : Nat} {lv : Value} {σ : BSt} (hM : BookAt w b mb lv σ) (hO : σ.Ok) (hlen : σ.log.length + σ.wt.length ≤ 1000000) (m : Ms) (hr : rightB m = true) (hn : isNext σ m = true) :
    CallsIn Fence.wide 5 Try.prog 13 #[.pointer (some ⟨b, 0, none⟩), m.val] w (TakeR b mb lv σ m w) := by
  have hF := wideF_wide
  have E1 := Ext.alloc w (.cells #[.pointer (some ⟨b, 0, none⟩)] 25)
  have E2 := Ext.alloc (w.alloc (.cells #[.pointer (some ⟨b, 0, none⟩)] 25)) (.cells #[.int .i64 m.f, .int .u32 m.c, .string m.d] 34)
  have o1 := (Obj_.new w 25 #[.pointer (some ⟨b, 0, none⟩)] (fun _ => .pointer (some ⟨b, 0, none⟩)) (by intro i hi; simp at hi; subst hi; rfl)).ext E2
  have o2 := box_Ms (w.alloc (.cells #[.pointer (some ⟨b, 0, none⟩)] 25)) m
  have s1 : (w.alloc (.cells #[.pointer (some ⟨b, 0, none⟩)] 25)).heap.size = w.heap.size + 1 := by simp
  rw [s1] at o2
  have HE := Lib.hid (E1.trans E2)
  have HM0 := Lib.hid hM
  have HM := Lib.hid (hM.ext (E1.trans E2))
  have HO := Lib.hid hO
  have hc1 := o1.cell 0 (by simp)
  have hl1 := o1.lt
  have HO1 := Lib.hid o1
  obtain ⟨d0, d1, d2⟩ := o2.ms
  have hl2 := o2.lt
  have Hr := Lib.hid hr
  have hrm := rightB_iff.1 hr
  have Hn := Lib.hid hn
  have hN : nextB σ m.f = σ.tk m.f.toNat + 1 := by unfold nextB; rw [if_pos ⟨hrm.1, hrm.2.1⟩]
  have hcb : (m.c != σ.tk m.f.toNat + 1) = false := by unfold isNext at hn; simpa using hn
  obtain ⟨q, hq⟩ : ∃ q, σ.tk m.f.toNat + 1 = q := ⟨_, rfl⟩
  rw [hq] at hN hcb
  have HN := Lib.hid hN
  clear hM hr E1 E2 o1 o2 s1 hO hrm hn hN hq
  unfold Ms.val
  refine callsIn_of_wp_marks Try.func13 rfl trivial ?_
  simp only [Try.ntmps13, List.size_toArray, List.length_cons, List.length_nil, Nat.reduceAdd, Nat.reduceSub, Array.replicate_succ, Array.replicate_zero, List.push_toArray, List.append_toArray, List.nil_append, List.cons_append]
  generalize hW : (w.alloc (.cells #[.pointer (some ⟨b, 0, none⟩)] 25)).alloc (.cells #[.int .i64 m.f, .int .u32 m.c, .string m.d] 34) = W at *
  gi_upto_region 3 with fail
  refine wpIn_region_line hF [(0,1),(1,1),(2,0)] (by kernel_rfl) (by kernel_rfl) (Ext W) (fun _ _ h k => h.trans k) (Ext.refl _) ?_
  refine Fx.look rfl rfl (op_load_Ms' (m := m) hl2 d0 d1 d2 rfl) (by simp only [List.set_cons_zero, List.set_cons_succ]; rfl) ?_
  refine Fx.call1 (v := .bool true) (args := #[m.val]) rfl rfl (fun _ => by first | (go_simp; done) | (go_simp; rfl)) (fun w' hC => (right_ids m w').mono (fun e w'' hh => by rw [Hr.out] at hh; exact hh)) (by simp only [List.set_cons_zero, List.set_cons_succ]; rfl) ?_
  first
    | refine Fx.skip rfl rfl (by simp only [List.set_cons_zero, List.set_cons_succ]; rfl) ?_
    | (with_reducible refine Fx.lab0 ?_
       first
         | refine Fx.moveT rfl rfl rfl (by simp only [List.set_cons_zero, List.set_cons_succ]; rfl) ?_
         | refine Fx.assignT rfl rfl rfl (by simp only [List.set_cons_zero, List.set_cons_succ]; rfl) ?_
         | refine Fx.pure_ rfl rfl (fun _ => by go_simp; first | done | rfl) (by simp only [List.set_cons_zero, List.set_cons_succ]; rfl) ?_)
    | (with_reducible refine Fx.lab1 ?_
       refine Fx.look rfl rfl (fun w' hC => by obtain ⟨hc, hf, hl⟩ := Ext.cells hC; go_simp; rfl) (by simp only [List.set_cons_zero, List.set_cons_succ]; rfl) ?_)
  refine Fx.done (fun w1 hC => ?_)
  obtain ⟨xc, xf, xl⟩ := hC.cells
  replace hc1 := (xc _ _ hl1).trans hc1
  replace d0 := (xc _ _ hl2).trans d0
  replace d1 := (xc _ _ hl2).trans d1
  replace d2 := (xc _ _ hl2).trans d2
  replace hl1 := xl _ hl1
  replace hl2 := xl _ hl2
  have HE1 := Lib.hid (HE.out.trans hC)
  have HM1 := Lib.hid (HM.out.ext hC)
  have HOb1 := Lib.hid (HO1.out.ext hC)
  clear xc xf xl hC
  gi_upto_region 9 with (refine ⟨trivial, ?_⟩; gi_at_call 15; refine (hF.calls (next_at HM1.out HO.out _)).mono ?_; rw [HN.out]; rintro e w' ⟨rfl, rfl⟩)
  refine wpIn_region_line hF [(0,2)] (by kernel_rfl) (by kernel_rfl) (Ext w') (fun _ _ h k => h.trans k) (Ext.refl _) ?_
  refine Fx.mkPtr (fun B w2 => w'.heap.size ≤ B ∧ Obj_ w2 B 1 (fun _ => .slice none 0 0)) (fun B _ _ h k => ⟨h.1, h.2.ext k⟩) rfl rfl (fun w2 hC => stepAt_alloc_sl hC) (fun B7 => ?_)
  simp only [List.set_cons_zero, List.set_cons_succ]
  refine Fx.done (fun w2 hC => ?_)
  obtain ⟨hC1, hB7, hO7⟩ := hC
  obtain ⟨xc, xf, xl⟩ := hC1.cells
  replace hc1 := (xc _ _ hl1).trans hc1
  replace d0 := (xc _ _ hl2).trans d0
  replace d1 := (xc _ _ hl2).trans d1
  replace d2 := (xc _ _ hl2).trans d2
  replace hl1 := xl _ hl1
  replace hl2 := xl _ hl2
  have HE2 := Lib.hid (HE1.out.trans hC1)
  have HE12 := Lib.hid hC1
  have HOb2 := Lib.hid (HOb1.out.ext hC1)
  have HM2 := Lib.hid (HM1.out.ext hC1)
  have HB7 := Lib.hid hB7
  have HO7 := Lib.hid hO7
  clear xc xf xl hC1 hB7 hO7
  gi_upto_region 10 with fail
  refine wpIn_region_line hF [(0,1),(1,1),(2,2)] (by kernel_rfl) (by kernel_rfl) (Ext w2) (fun _ _ h k => h.trans k) (Ext.refl _) ?_
  first
    | refine Fx.skip rfl rfl (by simp only [List.set_cons_zero, List.set_cons_succ]; rfl) ?_
    | (with_reducible refine Fx.lab0 ?_
       first
         | refine Fx.moveT rfl rfl rfl (by simp only [List.set_cons_zero, List.set_cons_succ]; rfl) ?_
         | refine Fx.assignT rfl rfl rfl (by simp only [List.set_cons_zero, List.set_cons_succ]; rfl) ?_
         | refine Fx.pure_ rfl rfl (fun _ => by go_simp; first | done | rfl) (by simp only [List.set_cons_zero, List.set_cons_succ]; rfl) ?_)
    | (with_reducible refine Fx.lab1 ?_
       refine Fx.look rfl rfl (fun w' hC => by obtain ⟨hc, hf, hl⟩ := Ext.cells hC; go_simp; rfl) (by simp only [List.set_cons_zero, List.set_cons_succ]; rfl) ?_)
  refine Fx.look rfl rfl (op_load_Ms' (m := m) hl2 d0 d1 d2 rfl) (by simp only [List.set_cons_zero, List.set_cons_succ]; rfl) ?_
  refine Fx.mkBy (β := Nat × Nat) (fun p => .func (.func 40) #[] #[.pointer (some ⟨p.2, 0, none⟩), .pointer (some ⟨p.1, 0, none⟩)])
    (fun p w' => w2.heap.size ≤ p.1 ∧ w2.heap.size ≤ p.2 ∧ p.1 ≠ p.2 ∧ Obj_ w' p.1 1 (fun _ => .pointer (some ⟨b, 0, none⟩)) ∧ Obj_ w' p.2 3 (msF m)) (fun p _ _ h k => ⟨h.1, h.2.1, h.2.2.1, h.2.2.2.1.ext k, h.2.2.2.2.ext k⟩) rfl rfl (fun w'' hC => ?_) (fun p => ?_)
  · unfold stepAt
    rw [show (execOp _ _).run Try.prog w'' = .ok (.enter 26 #[.pointer (some ⟨b, 0, none⟩), m.val]) w'' from by first | (go_simp; done) | (go_simp; rfl)]
    exact (row_at w'' b m).mono (fun e w3 hh => by
      obtain ⟨Bb, Bm, rfl, h1, h2, h3, h4, h5, h6⟩ := hh
      have := hC.size
      exact ⟨_, rfl, (Bb, Bm), rfl, h1, by simp only; omega, by simp only; omega, h4, h5, h6⟩)
  obtain ⟨Bq, Bm⟩ := p
  simp only [List.set_cons_zero, List.set_cons_succ]
  refine Fx.done (fun w0 hC => ?_)
  obtain ⟨hC0, hq1, hq2, hq3, oq, om⟩ := hC
  have HE0 := Lib.hid (HE2.out.trans hC0)
  obtain ⟨L, hL⟩ : ∃ L, rowL σ.wt m = L := ⟨_, rfl⟩
  have R2 := Lib.hid (rowL_at HO.out Hr.out).2.1
  have REat := Lib.hid (eat_all HO.out Hr.out)
  have RRight := Lib.hid (row_right HO.out Hr.out)
  have RPos := Lib.hid (row_pos HO.out Hr.out)
  rw [hL] at R2 REat RRight RPos
  have HL := Lib.hid hL
  have h12 := HE1.out.size
  have h22 := HE12.out.size
  have h02 := hC0.size
  have h71 := HB7.out
  have h72 := HO7.out.lt
  have hbl := HOb2.out.lt
  have hP : TkP w w0 b mb w.heap.size Bq B7 lv := ⟨HE0.out.size, fun x hx => HM0.out.lt hx, Nat.le_refl _, by omega, by omega, by omega, by omega, oq.lt, by have := HOb1.out.lt; omega, by omega⟩
  have HP := Lib.hid hP
  have I0 : TkI w w0 b mb w.heap.size Bq B7 lv σ L 0 (fun x => x = b ∨ x = mb ∨ x = B7) w0 :=
    ⟨⟨.slice none 0 0, fun x => by simp [Value.ownBlock], HO7.out.ext hC0, Own.nil, fun y hy => by simp [Value.ownBlock] at hy⟩, (by exact HM2.out.ext hC0), HOb2.out.ext hC0, oq, HE0.out.mods _⟩
  have HI0 := Lib.hid I0
  have Hom := Lib.hid om
  have Hlen := Lib.hid hlen
  clear d0 d1 d2 hl1 hl2 hc1 hcb hL h12 h22 h02 h71 h72 hbl hP I0 oq om hq1 hq2 hq3 hC0 hlen
  gi_wp2
  refine rangeFunc_lawT hF rfl (gf := 40) (lb := #[.pointer (some ⟨Bm, 0, none⟩), .pointer (some ⟨Bq, 0, none⟩)]) ?hg (fun args w => callFunc_at _ (by kernel_rfl) args w)
    L.length (fun k => #[(L.getD k ms0).val]) (fun _ _ => rfl) (TkI w w0 b mb w.heap.size Bq B7 lv σ L) (fun k W => W.cell? ⟨Bq, 0, none⟩ = some (.pointer (some ⟨b, 0, none⟩)) ∧ ∃ lv, BookAt W b mb lv (eatN σ (L.take k))) (fun _ _ _ => False)
    ?hII ?hTB ?hTl ?hI ?hIx (fun x => x = b ∨ x = mb ∨ x = B7) ?hT0 ?h0 ?hseq (TkA w w0 b mb w.heap.size Bq B7 Bm lv σ L m q) ?hA ?hassign ?hbody ?hdone ?hstop
  case hg => rfl
  case hII => exact fun k T W h => ⟨h.bq.cell 0 (by decide), lv, h.bk⟩
  case hTB => exact fun k T W h => h.tb HP.out
  case hTl => exact fun k T W h => h.tl
  case hI => exact fun k T W W' S h hm hS => h.mods HP.out hm hS
  case hIx => exact fun _ _ _ _ h _ => h.elim
  case hT0 => exact fun x hx => HI0.out.tl x hx
  case h0 => exact HI0.out
  case hseq => exact fun W hm => row_iter hF rfl _ _ b mb σ HO.out m Hr.out Bm Bq L HL.out (fun k W h => h) W (Hom.out.mods hm (by have := Hom.out.lt; unfold Bk; omega))
  case hA =>
    rintro k T a' W W' ⟨h1, B8, h2, h3, h4, h5⟩ hm
    exact ⟨h1.mods HP.out hm (fun x hx => ⟨by unfold Bk at hx; omega, h1.tb HP.out x hx⟩), B8, h2, h3, h4.mods hm (by unfold Bk; omega), h5⟩
  case hassign =>
    intro l k T W hk hi hs
    simp only [List.zip_toArray, List.zip_cons_cons, List.zip_nil_left, List.zip_nil_right, List.foldl_toArray, List.foldl_toArray', List.foldl_cons, List.foldl_nil, List.setIfInBounds_toArray, List.set_cons_succ, List.set_cons_zero]
    show Code.wpIn (Fence.wide.inRound l) _ _ _ _ (Act.mk (tkL m q b w.heap.size B7 Bm Bq undef (L.getD k ms0).val).toArray []) W
    obtain ⟨y, hy⟩ : ∃ y, L.getD k ms0 = y := ⟨_, rfl⟩
    rw [hy]
    unfold tkL
    refine wpIn_region_line (hF.inRound l) [(0,2),(1,3)] (by kernel_rfl) (by kernel_rfl) (Ext W) (fun _ _ h k => h.trans k) (Ext.refl _) ?_
    refine Fx.mkPtr (fun B w' => W.heap.size ≤ B ∧ Obj_ w' B 3 (msF ms0)) (fun B _ _ h k => ⟨h.1, h.2.ext k⟩) rfl rfl (fun w' hC => stepAt_alloc_Ms hC) (fun B => ?_)
    simp only [List.set_cons_zero, List.set_cons_succ]
    refine Fx.eff0 (MsPre W B y) (msPre_stable _ _ _) rfl rfl (fun w' hC => stepAt_mono (stepAt_store_Ms hC.1 hC.2.1 hC.2.2 y rfl rfl) (fun _ w'' h => ⟨h.1, hC.2.1, h.2⟩)) ?_
    refine Fx.done (fun w3 hC => ?_)
    obtain ⟨hC1, hB, hOb⟩ := hC
    exact ⟨hC1, hi.mods HP.out (hC1.mods (fun _ => False)) (fun _ h => h.elim), B, Nat.le_trans hs hB, fun h => by have := hi.tl B h; omega, by rw [hy]; exact hOb, by rw [hy]; rfl⟩
  case hbody =>
    rintro l k T a' W hk ⟨hi, B8, hB8, hT8, hO8, rfl⟩ hs
    have hFq := hF.inRound l
    obtain ⟨y, hy⟩ : ∃ y, L[k]? = some y := ⟨L[k], by simp [hk]⟩
    have hgk : L.getD k ms0 = y := by rw [List.getD_eq_getElem?_getD, hy]; rfl
    have hyr := rightB_iff.1 (RRight.out y (List.mem_of_getElem? hy))
    have htk : eatN σ (L.take (k + 1)) = eatS (eatN σ (L.take k)) y := by
      rw [List.take_succ_eq_append_getElem hk, eatN_snoc]
      have : L[k] = y := by rw [List.getElem?_eq_getElem hk] at hy; exact Option.some.inj hy
      rw [this]
    have htk2 : L.take (k + 1) = L.take k ++ [y] := by
      rw [List.take_succ_eq_append_getElem hk]
      have : L[k] = y := by rw [List.getElem?_eq_getElem hk] at hy; exact Option.some.inj hy
      rw [this]
    rw [hgk] at hO8 ⊢
    obtain ⟨nv, hT, h7, hown, hnf⟩ := hi.ex
    have hlt7 := h7.lt
    obtain ⟨d0, d1, d2⟩ := hO8.ms
    have dl := hO8.lt
    have hcb := hi.bb.cell 0 (by decide)
    have hlb := hi.bb.lt
    obtain ⟨c16, c17, cl, fb, lb, lm⟩ := hi.bk.cells
    have hf0 := hyr.1
    have hf1 := hyr.2.1
    replace cl := cl y.f.toNat (by omega)
    have HY := Lib.hid hyr
    have HT := Lib.hid hT
    have HI := Lib.hid hi
    have H7 := Lib.hid h7
    have HOW := Lib.hid hown
    have HNF := Lib.hid hnf
    have HT8 := Lib.hid hT8
    have HTK := Lib.hid htk
    have HTK2 := Lib.hid htk2
    have HO8 := Lib.hid hO8
    have hpb := HP.out.fb b (.inl rfl)
    have hpm := HP.out.fb mb (.inr (.inl rfl))
    have hws := HP.out.ws
    have hp71 := HP.out.b71
    have hp70 := HP.out.b70
    have hpb1 := HP.out.bb1
    have hmb : mb ≠ b := fun e => hi.bk.d1 e.symm
    have hm8 : mb ≠ B8 := by omega
    have hmbb : mb ≠ w.heap.size := by omega
    clear hgk hy hyr htk htk2 hi hT h7 hown hnf hT8 c16 lm hO8
    obtain ⟨u0, hu0⟩ : ∃ u, (eatN σ (L.take k)).tk y.f.toNat = u := ⟨_, rfl⟩
    rw [hu0] at cl
    clear hu0
    unfold tkL
    gi_upto_region 12 with fail
    refine wpIn_region_plan hFq [(0,1),(1,0),(2,0),(3,1),(4,0),(5,1),(6,3)] (by kernel_rfl) (by kernel_rfl) (by kernel_rfl) (Ext W) (fun _ _ h k => h.trans k) (Ext.drawn _ _) ?_
    iterate 5
      first
        | refine Fx.skip rfl rfl (by simp only [List.set_cons_zero, List.set_cons_succ]; rfl) ?_
        | (with_reducible refine Fx.lab0 ?_
           first
             | refine Fx.moveT rfl rfl rfl (by simp only [List.set_cons_zero, List.set_cons_succ]; rfl) ?_
             | refine Fx.assignT rfl rfl rfl (by simp only [List.set_cons_zero, List.set_cons_succ]; rfl) ?_
             | refine Fx.pure_ rfl rfl (fun _ => by go_simp; first | done | rfl) (by simp only [List.set_cons_zero, List.set_cons_succ]; rfl) ?_)
        | (with_reducible refine Fx.lab1 ?_
           refine Fx.look rfl rfl (fun w' hC => by obtain ⟨hc, hf, hl⟩ := Ext.cells hC; go_simp; rfl) (by simp only [List.set_cons_zero, List.set_cons_succ]; rfl) ?_)
    refine Fx.look rfl rfl (op_load_Id' dl d0 d1 rfl) (by simp only [List.set_cons_zero, List.set_cons_succ]; rfl) ?_
    refine Fx.eff0 (fun w' => MapIs w' mb idV Ms.val (kdel (y.f, y.c) (eatN σ (L.take k)).wt) ∧ Mods (· = mb) W w') (fun _ _ h k => ⟨h.1.ext k, h.2.then_ k⟩) rfl rfl (fun w' hC => ?_) ?_
    · exact stepAt_mono (stepAt_del (k := (y.f, y.c)) (HI.out.bk.map.ext hC) keysId Try.underlying50 rfl rfl) (fun _ w'' hh => ⟨hh.1, hh.2.after hC⟩)
    refine Fx.done (fun wa hC => ?_)
    obtain ⟨xc, xf, xl⟩ := hC.2.cells
    replace hcb := (xc _ _ hlb hmbb.symm).trans hcb
    replace d0 := (xc _ _ dl hm8.symm).trans d0
    replace d1 := (xc _ _ dl hm8.symm).trans d1
    replace d2 := (xc _ _ dl hm8.symm).trans d2
    replace cl := (xc _ _ lb hmb.symm).trans cl
    replace fb := fun o => (xf _ o lb hmb.symm).trans (fb o)
    replace lb := xl _ lb
    replace hlb := xl _ hlb
    replace dl := xl _ dl
    have HA := Lib.hid hC
    clear xc xf xl hC c17
    gi_wp2
    refine wpIn_region_plan hFq [(0,1),(1,0),(2,0),(3,1),(4,0),(5,0),(6,1),(7,0),(8,0),(9,0),(10,3)] (by kernel_rfl) (by kernel_rfl) (by kernel_rfl) (Ext wa) (fun _ _ h k => h.trans k) (Ext.drawn _ _) ?_
    iterate 10
      first
        | refine Fx.skip rfl rfl (by simp only [List.set_cons_zero, List.set_cons_succ]; rfl) ?_
        | (with_reducible refine Fx.lab0 ?_
           first
             | refine Fx.moveT rfl rfl rfl (by simp only [List.set_cons_zero, List.set_cons_succ]; rfl) ?_
             | refine Fx.assignT rfl rfl rfl (by simp only [List.set_cons_zero, List.set_cons_succ]; rfl) ?_
             | refine Fx.pure_ rfl rfl (fun _ => by go_simp; first | done | rfl) (by simp only [List.set_cons_zero, List.set_cons_succ]; rfl) ?_)
        | (with_reducible refine Fx.lab1 ?_
           refine Fx.look rfl rfl (fun w' hC => by obtain ⟨hc, hf, hl⟩ := Ext.cells hC; go_simp; rfl) (by simp only [List.set_cons_zero, List.set_cons_succ]; rfl) ?_)
    refine Fx.store ⟨b, y.f.toNat, none⟩ (.int .u32 y.c) rfl rfl (fun w' hC => by obtain ⟨hc, hf, hl⟩ := Ext.cells hC; go_simp) ?_
    refine Fx.done (fun w2 hC => ?_)
    obtain ⟨wb, hb1, hb2⟩ := hC
    obtain ⟨g1, g2⟩ := HI.out.bk.eaten (x := y) (by omega) HA.out.1 HA.out.2 hb1 (Ext.refl _) hb2
    have G1 := Lib.hid g1
    have G2 := Lib.hid g2
    have h7' := H7.out.mods g2 (by omega)
    have hc7 := h7'.cell 0 (by decide)
    have hf7 := h7'.free 0
    have hl7 := h7'.lt
    have H7' := Lib.hid h7'
    have h8' := HO8.out.mods g2 (by omega)
    clear d0 d1 d2 dl hb1 hb2 g1 g2 h7' hcb hlb cl fb lb
    obtain ⟨d0, d1, d2⟩ := h8'.ms
    have dl := h8'.lt
    have hown2 := HOW.out.mods G2.out (fun x hx => by have := HNF.out x hx; omega)
    have HOW2 := Lib.hid hown2
    have hnv7 : ∀ c, nv.ownBlock = some c → c ≠ B7 := fun c hc => by have := HNF.out c hc; omega
    have HNV7 := Lib.hid hnv7
    have hln : (L.take k).length + 1 ≤ 1073741824 := by have := REat.out; have := Hlen.out; rw [List.length_take]; omega
    have HLN := Lib.hid hln
    clear hown2 hnv7 hln h8'
    gi_upto_region 14 with fail
    refine wpIn_region_line hFq [(0,1),(1,1),(2,2),(3,3),(4,3)] (by kernel_rfl) (by kernel_rfl) (Ext w2) (fun _ _ h k => h.trans k) (Ext.refl _) ?_
    first
      | refine Fx.skip rfl rfl (by simp only [List.set_cons_zero, List.set_cons_succ]; rfl) ?_
      | (with_reducible refine Fx.lab0 ?_
         first
           | refine Fx.moveT rfl rfl rfl (by simp only [List.set_cons_zero, List.set_cons_succ]; rfl) ?_
           | refine Fx.assignT rfl rfl rfl (by simp only [List.set_cons_zero, List.set_cons_succ]; rfl) ?_
           | refine Fx.pure_ rfl rfl (fun _ => by go_simp; first | done | rfl) (by simp only [List.set_cons_zero, List.set_cons_succ]; rfl) ?_)
      | (with_reducible refine Fx.lab1 ?_
         refine Fx.look rfl rfl (fun w' hC => by obtain ⟨hc, hf, hl⟩ := Ext.cells hC; go_simp; rfl) (by simp only [List.set_cons_zero, List.set_cons_succ]; rfl) ?_)
    refine Fx.look rfl rfl (op_load_Ms' (m := y) dl d0 d1 d2 rfl) (by simp only [List.set_cons_zero, List.set_cons_succ]; rfl) ?_
    refine Fx.mkSl 1 1 (fun B w' => MsL w' (.slice (some ⟨B, 0, none⟩) 1 1) [y]) (fun B _ _ h k => h.ext k) rfl rfl (fun w' hC => stepAt_lit1 hC y rfl) (fun B => ?_)
    simp only [List.set_cons_zero, List.set_cons_succ]
    refine Fx.eff (fun v' w' => OwnMs w' v' (L.take k ++ [y]) ∧ Mods (fun c => nv.ownBlock = some c) w2 w' ∧ (∀ c, v'.ownBlock = some c → nv.ownBlock = some c ∨ w2.heap.size ≤ c)) (fun v _ _ h k => ⟨h.1.ext k, h.2.1.then_ k, h.2.2⟩) rfl rfl
      (fun w' hC => stepAt_append hC.1 (HOW2.out.ext hC.1) hC.2 (by simpa using HLN.out) rfl rfl) (fun nv' => ?_)
    simp only [List.set_cons_zero, List.set_cons_succ]
    refine Fx.store ⟨B7, 0, none⟩ nv' rfl rfl (fun w' hC => by
      obtain ⟨hc, hf, hl⟩ := hC.2.1.cells
      have e1 := (hc B7 0 hl7 (fun h => HNV7.out _ h rfl)).trans hc7
      have e2 := (hf B7 0 hl7 (fun h => HNV7.out _ h rfl)).trans hf7
      obtain ⟨A, n, vv⟩ : ∃ A n cap, nv' = .slice A n cap := by obtain ⟨A, cap, e, _⟩ := hC.1.val; exact ⟨_, _, _, e⟩
      obtain ⟨cap, rfl⟩ := vv
      clear hc hf hl hC
      go_simp) ?_
    refine Fx.done (fun w6 hC => ?_)
    obtain ⟨w5, ⟨h5, h5', h5''⟩, h6⟩ := hC
    have HH5 := Lib.hid h5
    have HH5' := Lib.hid h5'
    have HH5'' := Lib.hid h5''
    have HH6 := Lib.hid h6
    clear h5 h5' h5'' h6 d0 d1 d2 dl hc7 hf7 hl7
    gi_wp2
    have m6 : Mods (· = B7) w5 w6 := (Mods.setCell w5 B7 _ _).then_ HH6.out
    have s02 := G2.out.size
    refine ⟨fun x => x = b ∨ x = mb ∨ x = B7 ∨ nv'.ownBlock = some x, ?_, ?_, ⟨⟨nv', fun _ => Iff.rfl, ?_, ?_, ?_⟩, ?_, ?_, ?_, ?_⟩⟩
    · refine ((G2.out.mono (T := T) (fun c _ h => (HT.out c).2 (h.elim .inl (fun h => .inr (.inl h))))).trans HH5'.out (fun c _ h => (HT.out c).2 (.inr (.inr (.inr h))))).trans m6 (fun c _ h => (HT.out c).2 (.inr (.inr (.inl h))))
    · intro x hx
      rcases hx with h | h | h | h
      · exact .inl ((HT.out x).2 (.inl h))
      · exact .inl ((HT.out x).2 (.inr (.inl h)))
      · exact .inl ((HT.out x).2 (.inr (.inr (.inl h))))
      · rcases HH5''.out x h with h | h
        · exact .inl ((HT.out x).2 (.inr (.inr (.inr h))))
        · exact .inr (by omega)
    · exact (((H7'.out.mods HH5'.out (fun h => HNV7.out _ h rfl)).set (i := 0) (by decide) nv').ext HH6.out).congr (fun i hi => by unfold upd; rw [if_pos (by omega)])
    · rw [HTK2.out]
      refine HH5.out.mods m6 (fun c hc e => ?_)
      rcases HH5''.out c hc with h | h
      · exact HNV7.out c h e
      · have := H7'.out.lt; omega
    · intro c hc
      rcases HH5''.out c hc with h | h
      · exact HNF.out c h
      · omega
    · rw [HTK.out]
      refine (G1.out.mods HH5'.out (fun x hx h => ?_)).mods m6 (fun x hx h => ?_)
      · have := HP.out.fb x hx; have := HNF.out x h; omega
      · have := HP.out.fb x hx; omega
    · exact ((HI.out.bb.mods G2.out (by have := HP.out.bb0; omega)).mods HH5'.out (fun h => by have := HNF.out _ h; omega)).mods m6 (by have := HP.out.ne; omega)
    · exact ((HI.out.bq.mods G2.out (by have := HP.out.bq0; omega)).mods HH5'.out (fun h => by have := HNF.out _ h; have := HP.out.bq1; omega)).mods m6 (by have := HP.out.neq; omega)
    · refine ((HI.out.m.trans G2.out (fun x _ h => h.elim .inl (fun h => .inr (.inl h)))).trans HH5'.out (fun x hx h => by have := HNF.out x h; omega)).trans m6 (fun x hx h => by omega)
  case hdone =>
    intro T W hI hD hs
    obtain ⟨nv, hT, h7, hown, hnf⟩ := hI.ex
    rw [List.take_length] at hown
    have hbk := hI.bk
    rw [List.take_length] at hbk
    have hc7 := h7.cell 0 (by decide)
    have hl7 := h7.lt
    have hcb := hI.bb.cell 0 (by decide)
    have hlb := hI.bb.lt
    obtain ⟨c16, c17, cl, fb, lb, lm⟩ := hbk.cells
    have hlog : OwnMs W lv σ.log := by have := hbk.log; rwa [eatN_log] at this
    have hlvb : ∀ c, lv.ownBlock = some c → c ≠ b ∧ c ≠ mb := hbk.d4
    have hlvw : ∀ c, lv.ownBlock = some c → c < w.heap.size := fun c hc => HP.out.fb c (.inr (.inr hc))
    have hws := HP.out.ws
    have hp70 := HP.out.b70
    have hpb0 := HP.out.bb0
    have HBK := Lib.hid hbk
    have HLG := Lib.hid hlog
    have HOW := Lib.hid hown
    have HNF := Lib.hid hnf
    have HI := Lib.hid hI
    have HLVB := Lib.hid hlvb
    have HLVW := Lib.hid hlvw
    have hlen1 : σ.log.length + L.length ≤ 1073741824 := by have := REat.out; have := Hlen.out; omega
    have HLE := Lib.hid hlen1
    have HD := Lib.hid hD
    have hb7b : B7 ≠ b := by have := HP.out.fb b (.inl rfl); omega
    have hdb : w0.heap.size ≠ b := by have := HP.out.fb b (.inl rfl); omega
    have H7 := Lib.hid h7
    clear hI hT h7 hown hnf hbk c17 cl lm hlog hlvb hlvw hlen1 hD
    gi_upto_region 15 with fail
    have hnb : ¬ lv.ownBlock = some w.heap.size := fun h => by have := HLVW.out _ h; omega
    have hn7 : ¬ lv.ownBlock = some B7 := fun h => by have := HLVW.out _ h; omega
    have hnbb : ¬ lv.ownBlock = some b := fun h => (HLVB.out _ h).1 rfl
    have hbb : ¬ w.heap.size = b := by have := HP.out.fb b (.inl rfl); omega
    refine wpIn_region_planC hF [(0,3),(1,1),(2,0),(3,0),(4,1),(5,1),(6,4),(7,0),(8,0),(9,4)] (by kernel_rfl) (by kernel_rfl) (by kernel_rfl) (G := fun w' => Mods (fun c => lv.ownBlock = some c ∨ c = b) W w') (Ext W) (fun w' h => h.mods _) (Ext.drawn _ _) ?_
    refine Gx.lookG rfl rfl (fun w' hC => by obtain ⟨hc, hf, hl⟩ := hC.cells; have e1 := (hc _ 0 hlb (fun h => h.elim hnb hbb)).trans hcb; clear hc hf hl; go_simp; rfl) (by simp only [List.set_cons_zero, List.set_cons_succ]; rfl) ?_
    refine Gx.look rfl rfl (fun w' hC => by obtain ⟨hc, hf, hl⟩ := hC.cells; have e1 := (hc _ 0 hlb).trans hcb; clear hc hf hl; go_simp; rfl) (by simp only [List.set_cons_zero, List.set_cons_succ]; rfl) ?_
    iterate 2
      first
        | refine Gx.skip rfl rfl (by simp only [List.set_cons_zero, List.set_cons_succ]; rfl) ?_
        | (with_reducible refine Gx.lab0 ?_
           first
             | refine Gx.moveT rfl rfl rfl (by simp only [List.set_cons_zero, List.set_cons_succ]; rfl) ?_
             | refine Gx.assignT rfl rfl rfl (by simp only [List.set_cons_zero, List.set_cons_succ]; rfl) ?_
             | refine Gx.pure_ rfl rfl (fun _ => by go_simp; first | done | rfl) (by simp only [List.set_cons_zero, List.set_cons_succ]; rfl) ?_)
    refine Gx.look rfl rfl (fun w' hC => by obtain ⟨hc, hf, hl⟩ := hC.cells; have e1 := (hc b 16 lb).trans c16; have e2 := hl b lb; clear hc hf hl; go_simp; rfl) (by simp only [List.set_cons_zero, List.set_cons_succ]; rfl) ?_
    refine Gx.look rfl rfl (fun w' hC => by obtain ⟨hc, hf, hl⟩ := hC.cells; have e1 := (hc B7 0 hl7).trans hc7; clear hc hf hl; go_simp; rfl) (by simp only [List.set_cons_zero, List.set_cons_succ]; rfl) ?_
    refine Gx.eff (fun v' w' => OwnMs w' v' (σ.log ++ L) ∧ Mods (fun c => lv.ownBlock = some c) W w' ∧ (∀ c, v'.ownBlock = some c → lv.ownBlock = some c ∨ W.heap.size ≤ c)) (fun v w' h => h.2.1.mono (fun _ _ h => .inl h)) rfl rfl
      (fun w' hC => stepAt_append hC (HLG.out.ext hC) ((HOW.out.ext hC).sl Ms.len) HLE.out rfl rfl) (fun lv' => ?_)
    simp only [List.set_cons_zero, List.set_cons_succ]
    iterate 2
      first
        | refine Gx.skip rfl rfl (by simp only [List.set_cons_zero, List.set_cons_succ]; rfl) ?_
        | (with_reducible refine Gx.lab0 ?_
           first
             | refine Gx.moveT rfl rfl rfl (by simp only [List.set_cons_zero, List.set_cons_succ]; rfl) ?_
             | refine Gx.assignT rfl rfl rfl (by simp only [List.set_cons_zero, List.set_cons_succ]; rfl) ?_
             | refine Gx.pure_ rfl rfl (fun _ => by go_simp; first | done | rfl) (by simp only [List.set_cons_zero, List.set_cons_succ]; rfl) ?_)
    refine Gx.store ⟨b, 16, none⟩ lv' (fun w' h => (h.2.1.mono (T := fun c => lv.ownBlock = some c ∨ c = b) (fun _ _ h => .inl h)).trans (Mods.setCell w' b 16 lv') (fun _ _ h => .inr h)) rfl rfl (fun w' hC => by
      obtain ⟨hc, hf, hl⟩ := hC.2.1.cells
      have e1 := (hc b 16 lb hnbb).trans c16
      have e2 := (hf b 16 lb hnbb).trans (fb 16)
      obtain ⟨A, n, vv⟩ : ∃ A n cap, lv' = .slice A n cap := by obtain ⟨A, cap, e, _⟩ := hC.1.val; exact ⟨_, _, _, e⟩
      obtain ⟨cap, rfl⟩ := vv
      clear hc hf hl hC
      go_simp) ?_
    refine Gx.done (fun w6 hC => ?_)
    obtain ⟨w5, ⟨h5, h5', h5''⟩, h6'⟩ := hC
    have h6 : Ext (w5.setCell ⟨b, 16, none⟩ lv') w6 := by rw [h6']; exact Ext.refl _
    clear h6'
    have m6 : Mods (· = b) w5 w6 := (Mods.setCell w5 b _ _).then_ h6
    have hd6 : w6.heap[w0.heap.size]? = some (.deferred (some [])) := by
      have s1 : w0.heap.size < W.heap.size := by omega
      rw [m6.block _ (Nat.lt_of_lt_of_le s1 h5'.size) hdb, h5'.block _ s1 (fun h => by have := HLVW.out _ h; omega)]; exact HD.out
    have h76 := (H7.out.mods h5' (fun h => by have := HLVW.out _ h; omega)).mods m6 hb7b
    have hfin : BookAt w6 b mb lv' { eatN σ L with log := σ.log ++ L } := by
      have hB := HBK.out
      have nb' : ∀ c, lv'.ownBlock = some c → c ≠ b ∧ c ≠ mb := fun c hc => by
        rcases h5'' c hc with h | h
        · exact HLVB.out c h
        · have h1 := hB.lt (x := b) (.inl rfl)
          have h2 := hB.lt (x := mb) (.inr (.inl rfl))
          omega
      refine ⟨?_, ?_, ?_, hB.d1, nb'⟩
      · exact (((hB.obj.mods h5' (fun h => (HLVB.out b h).1 rfl)).set (i := 16) (by omega) lv').ext h6).congr bkF_lv
      · exact (hB.map.mods h5' (fun h => (HLVB.out mb h).2 rfl)).mods m6 (fun e => hB.d1 e.symm)
      · exact h5.mods m6 (fun c hc => (nb' c hc).1)
    have hMods : Mods (FB b mb lv) w w6 := (HI.out.m.trans h5' (fun x _ h => .inr (.inr h))).trans m6 (fun x _ h => .inl h)
    have hnvl : OwnMs w6 nv L := (HOW.out.mods h5' (fun c hc h => by have := HNF.out c hc; have := HLVW.out c h; omega)).mods m6 (fun c hc h => by have := HNF.out c hc; have := HP.out.fb b (.inl rfl); omega)
    have hfr : ∀ y, lv'.ownBlock = some y → lv.ownBlock = some y ∨ w.heap.size ≤ y := fun y hy => (h5'' y hy).imp id (fun h => by omega)
    have hnn : ∀ y, nv.ownBlock = some y → w.heap.size ≤ y ∧ y ≠ b ∧ y ≠ mb ∧ lv'.ownBlock ≠ some y := fun y hy => by
      have h1 := HNF.out y hy
      have h2 := HP.out.fb b (.inl rfl)
      have h3 := HP.out.fb mb (.inr (.inl rfl))
      refine ⟨by omega, by omega, by omega, fun h => ?_⟩
      rcases h5'' y h with h | h
      · have := HLVW.out y h; omega
      · have := HOW.out.lt hy; omega
    have HF1 := Lib.hid hfin
    have HF2 := Lib.hid hMods
    have HF3 := Lib.hid hnvl
    have HF4 := Lib.hid hfr
    have HF4b := Lib.hid h5''
    have HF5 := Lib.hid hnn
    have HD6 := Lib.hid hd6
    clear hc7 hl7 hcb hlb c16 fb lb
    have hc7 := h76.cell 0 (by decide)
    have hl7 := h76.lt
    clear h5 h5' h5'' h6 m6 hd6 h76 hfin hMods hnvl hfr hnn
    gi_wp2
    refine ⟨by simp, .inl ⟨_, _, rfl, run_takeDeferred HD6.out, ?_⟩⟩
    have mD : Mods (· = w0.heap.size) w6 (w6.putObj w0.heap.size (.deferred none)) := Mods.putObj _ _ _
    have hS : takeS σ m = { eatN σ L with log := σ.log ++ L } := by unfold takeS; rw [if_pos Hr.out, if_pos Hn.out, HL.out]
    have hT : takeL σ m = L := by unfold takeL; rw [Hr.out, Hn.out, HL.out]; rfl
    refine ⟨_, results_tmp2 rfl _ _ _, ?_⟩
    refine ⟨nv, lv', by rw [Hr.out]; rfl, ?_, ?_, ?_, HF4.out, HF5.out⟩
    · rw [hS]; exact HF1.out.mods mD (fun x hx e => by
        rcases hx with h | h | h
        · omega
        · have := HP.out.fb mb (.inr (.inl rfl)); omega
        · rcases HF4b.out x h with h | h
          · have := HLVW.out x h; omega
          · omega)
    · rw [hT]; exact (HF3.out.mods mD (fun c hc e => by have := HNF.out c hc; omega)).sl Ms.len
    · exact HF2.out.trans mD (fun x hx e => by omega)
  case hstop => exact fun _ _ _ _ h => h.elim
end Go.Proofs.Ytbjondnombnpbaa
