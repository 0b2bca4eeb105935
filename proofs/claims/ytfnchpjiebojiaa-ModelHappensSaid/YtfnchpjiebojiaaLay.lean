/-
  (*model.Model).lay: when it answers true, and what it does then.
-/
import Derived.Test.YtfnchpjiebojiaaOps
import Derived.Test.YtfnchpjiebojiaaAccept
namespace Go.Proofs.Ytfnchpjiebojiaa
open Go.RowKit

/-- The first statement of lay: what waits under the id is looked up and put into a variable of its own. -/
def LayPre (W : World) (B : Nat) (m : Ms) (w : World) : Prop := Ext W w ∧ W.heap.size ≤ B ∧ Obj_ w B 3 (msF m)
theorem layPre_stable (W : World) (B : Nat) (m : Ms) : StableF (LayPre W B m) := fun _ _ h k => ⟨h.1.trans k, h.2.1, h.2.2.ext k⟩
theorem lookVal (o : Option Ms) : ((o.map Ms.val).getD (.agg #[.int .i64 0, .int .u32 0, .string ⟨#[]⟩]) : Value) = (o.getD ms0).val := by cases o <;> rfl

set_option maxRecDepth 100000 in
set_option maxHeartbeats 1600000 in
theorem lay_no (b sb mb : Nat) (lv : Value) (σ : MSt) (x : Ms) (w : World) (hM : ModelAt w b sb mb lv σ) (hO : σ.Ok) (hB : layB σ x = false) :
    Calls Try.prog 33 #[.pointer (some ⟨b, 0, none⟩), x.val] w fun e w' => e = .returned (.bool false) ∧ Ext w w' := by
  have hE0 := Ext.alloc w (.cells #[.int .i64 x.f, .int .u32 x.c, .string x.d] 34)
  have hM0 := hM.ext hE0
  have HMap := Lib.hid hM0.map
  have hM1 := hM0.cells
  obtain ⟨c0, c1, c18, cl, sa, sd, fb, fs, lb, ls, lm⟩ := hM1
  have bx := box_Ms w x
  obtain ⟨b0, b1, b2⟩ := bx.ms
  have bl := bx.lt
  have hE := Lib.hid hE0
  clear bx hE0 hM0 sa sd fb fs ls lm c18
  have Hσ : ∃ o, kfind (x.f, x.c) σ.wt = o := ⟨_, rfl⟩
  obtain ⟨o, ho⟩ := Hσ
  have hright : ∀ y, o = some y → 0 ≤ y.f ∧ y.f < 16 := fun y hy => by
    have := (hO.wt _ (kfind_mem (ho.trans hy))).2
    simp only [rightB, decide_eq_true_eq] at this
    exact ⟨this.1, this.2.1⟩
  have hlg0 := hO.lg0 x.f.toNat
  have hlg1 := hO.lg1 x.f.toNat
  unfold layB at hB
  rw [ho] at hB
  have Ho := Lib.hid ho
  clear ho hM hO
  have hcase : o = none ∨ (∃ y, o = some y ∧ y ≠ x) ∨ (o = some x ∧ x.c ≠ σ.lg x.f.toNat + 1) := by
    cases o with
    | none => exact .inl rfl
    | some y =>
      by_cases hy : y = x
      · subst hy
        refine .inr (.inr ⟨rfl, ?_⟩)
        simpa using hB
      · exact .inr (.inl ⟨y, rfl, hy⟩)
  clear hB
  have Hright := Lib.hid hright
  have Hcase := Lib.hid hcase
  clear hright hcase
  unfold Ms.val
  go_enter Try.func33, Try.ntmps33
  go_wp2
  generalize hW : w.alloc (.cells #[.int .i64 x.f, .int .u32 x.c, .string x.d] 34) = W at *
  refine wp_region_plan [(0,0),(1,0),(2,0),(3,1),(4,0),(5,1),(6,1),(7,0),(8,0),(9,0),(10,2),(11,3),(12,0)] (by kernel_rfl) (by kernel_rfl) (by kernel_rfl) (Ext W) (fun _ _ h k => h.trans k) (Ext.drawn _ _) ?_
  iterate 5
    first
      | refine Fx.skip rfl rfl (by simp only [List.set_cons_zero, List.set_cons_succ]; rfl) ?_
      | (with_reducible refine Fx.lab0 ?_
         first
           | refine Fx.moveT rfl rfl rfl (by simp only [List.set_cons_zero, List.set_cons_succ]; rfl) ?_
           | refine Fx.assignT rfl rfl rfl (by simp only [List.set_cons_zero, List.set_cons_succ]; rfl) ?_
           | refine Fx.pure_ rfl rfl (fun _ => by go_simp; first | done | rfl) (by simp only [List.set_cons_zero, List.set_cons_succ]; rfl) ?_)
      | (with_reducible refine Fx.lab1 ?_
         refine Fx.look rfl rfl (fun w' hC => by obtain ⟨hc, hf, hl⟩ := Ext.cells hC; go_simp; rfl) (by simp only [List.set_cons_zero, List.set_cons_succ]; rfl) ?_)
  refine Fx.look rfl rfl (op_load_Id' bl b0 b1 rfl) (by simp only [List.set_cons_zero, List.set_cons_succ]; rfl) ?_
  refine Fx.look (v := .tuple #[(o.getD ms0).val, .bool o.isSome]) rfl rfl (fun w' hC => by rw [op_look (k := (x.f, x.c)) (HMap.out.ext hC) keysId Try.underlying63 (Try.zeroValue34 w') rfl rfl, Ho.out, lookVal]; rfl) (by simp only [List.set_cons_zero, List.set_cons_succ]; rfl) ?_
  iterate 3
    first
      | refine Fx.skip rfl rfl (by simp only [List.set_cons_zero, List.set_cons_succ]; rfl) ?_
      | (with_reducible refine Fx.lab0 ?_
         first
           | refine Fx.moveT rfl rfl rfl (by simp only [List.set_cons_zero, List.set_cons_succ]; rfl) ?_
           | refine Fx.assignT rfl rfl rfl (by simp only [List.set_cons_zero, List.set_cons_succ]; rfl) ?_
           | refine Fx.pure_ rfl rfl (fun _ => by go_simp; first | done | rfl) (by simp only [List.set_cons_zero, List.set_cons_succ]; rfl) ?_)
      | (with_reducible refine Fx.lab1 ?_
         refine Fx.look rfl rfl (fun w' hC => by obtain ⟨hc, hf, hl⟩ := Ext.cells hC; go_simp; rfl) (by simp only [List.set_cons_zero, List.set_cons_succ]; rfl) ?_)
  refine Fx.mkPtr (fun B w' => W.heap.size ≤ B ∧ Obj_ w' B 3 (msF ms0)) (fun B _ _ h k => ⟨h.1, h.2.ext k⟩) rfl rfl (fun w' hC => stepAt_alloc_Ms hC) (fun B => ?_)
  simp only [List.set_cons_zero, List.set_cons_succ]
  refine Fx.eff0 (LayPre W B (o.getD ms0)) (layPre_stable _ _ _) rfl rfl (fun w' hC => stepAt_mono (stepAt_store_Ms hC.1 hC.2.1 hC.2.2 (o.getD ms0) rfl rfl) (fun _ w'' h => ⟨h.1, hC.2.1, h.2⟩)) ?_
  first
    | refine Fx.skip rfl rfl (by simp only [List.set_cons_zero, List.set_cons_succ]; rfl) ?_
    | (with_reducible refine Fx.lab0 ?_
       first
         | refine Fx.moveT rfl rfl rfl (by simp only [List.set_cons_zero, List.set_cons_succ]; rfl) ?_
         | refine Fx.assignT rfl rfl rfl (by simp only [List.set_cons_zero, List.set_cons_succ]; rfl) ?_
         | refine Fx.pure_ rfl rfl (fun _ => by go_simp; first | done | rfl) (by simp only [List.set_cons_zero, List.set_cons_succ]; rfl) ?_)
    | (with_reducible refine Fx.lab1 ?_
       refine Fx.look rfl rfl (fun w' hC => by obtain ⟨hc, hf, hl⟩ := Ext.cells hC; go_simp; rfl) (by simp only [List.set_cons_zero, List.set_cons_succ]; rfl) ?_)
  refine Fx.done (fun w1 hC => ?_)
  obtain ⟨hC1, hB, hOb⟩ := hC
  have hx := hC1.cells
  obtain ⟨xc, xf, xl⟩ := hx
  replace c1 := (xc _ _ lb).trans c1
  replace b0 := (xc _ _ bl).trans b0
  replace b1 := (xc _ _ bl).trans b1
  replace b2 := (xc _ _ bl).trans b2
  replace cl := fun k hk => (xc _ _ lb).trans (cl k hk)
  replace lb := xl _ lb
  replace bl := xl _ bl
  have HC1 := Lib.hid hC1
  obtain ⟨y0, y1, y2⟩ := hOb.ms
  have yl := hOb.lt
  clear xc xf xl hC1 hOb HMap
  rcases Hcase.out with rfl | ⟨y, rfl, hy⟩ | ⟨rfl, hc⟩
  · simp only [Option.getD_none, Option.isSome_none] at y0 y1 y2 ⊢
    go_wp2
    refine wp_region_plan [(0,0),(1,0),(2,0),(3,1),(4,1),(5,0),(6,0),(7,0),(8,0),(9,0),(10,1),(11,0),(12,0),(13,0),(14,1),(15,0),(16,0),(17,0),(18,1),(19,0),(20,0),(21,0)] (by kernel_rfl) (by kernel_rfl) (by kernel_rfl) (Ext w1) (fun _ _ h k => h.trans k) (Ext.drawn _ _) ?_
    iterate 22
      first
        | refine Fx.skip rfl rfl (by simp only [List.set_cons_zero, List.set_cons_succ]; rfl) ?_
        | (with_reducible refine Fx.lab0 ?_
           first
             | refine Fx.moveT rfl rfl rfl (by simp only [List.set_cons_zero, List.set_cons_succ]; rfl) ?_
             | refine Fx.assignT rfl rfl rfl (by simp only [List.set_cons_zero, List.set_cons_succ]; rfl) ?_
             | refine Fx.pure_ rfl rfl (fun _ => by go_simp; first | done | rfl) (by simp only [List.set_cons_zero, List.set_cons_succ]; rfl) ?_)
        | (with_reducible refine Fx.lab1 ?_
           refine Fx.look rfl rfl (fun w' hC => by obtain ⟨hc, hf, hl⟩ := Ext.cells hC; go_simp; rfl) (by simp only [List.set_cons_zero, List.set_cons_succ]; rfl) ?_)
    refine Fx.done (fun w2 hC => ?_)
    go_wp2
    go_ret
    exact ⟨rfl, (hE.out.trans HC1.out).trans hC⟩
  · simp only [Option.getD_some, Option.isSome_some] at y0 y1 y2 ⊢
    go_wp2
    refine wp_region_plan [(0,0),(1,0),(2,0),(3,1),(4,1),(5,0),(6,0),(7,0),(8,0),(9,0),(10,1),(11,0),(12,0),(13,0),(14,1),(15,0),(16,0),(17,0),(18,1),(19,0),(20,0),(21,0)] (by kernel_rfl) (by kernel_rfl) (by kernel_rfl) (Ext w1) (fun _ _ h k => h.trans k) (Ext.drawn _ _) ?_
    iterate 3
      first
        | refine Fx.skip rfl rfl (by simp only [List.set_cons_zero, List.set_cons_succ]; rfl) ?_
        | (with_reducible refine Fx.lab0 ?_
           first
             | refine Fx.moveT rfl rfl rfl (by simp only [List.set_cons_zero, List.set_cons_succ]; rfl) ?_
             | refine Fx.assignT rfl rfl rfl (by simp only [List.set_cons_zero, List.set_cons_succ]; rfl) ?_
             | refine Fx.pure_ rfl rfl (fun _ => by go_simp; first | done | rfl) (by simp only [List.set_cons_zero, List.set_cons_succ]; rfl) ?_)
        | (with_reducible refine Fx.lab1 ?_
           refine Fx.look rfl rfl (fun w' hC => by obtain ⟨hc, hf, hl⟩ := Ext.cells hC; go_simp; rfl) (by simp only [List.set_cons_zero, List.set_cons_succ]; rfl) ?_)
    refine Fx.look rfl rfl (op_load_Ms' yl y0 y1 y2 rfl) (by simp only [List.set_cons_zero, List.set_cons_succ]; rfl) ?_
    refine Fx.look rfl rfl (op_load_Ms' bl b0 b1 b2 rfl) (by simp only [List.set_cons_zero, List.set_cons_succ]; rfl) ?_
    refine Fx.pure_ (v := .bool true) rfl rfl (fun w => by rw [op_neq_Ms y x rfl rfl]; simp [hy]) (by simp only [List.set_cons_zero, List.set_cons_succ]; rfl) ?_
    iterate 16
      first
        | refine Fx.skip rfl rfl (by simp only [List.set_cons_zero, List.set_cons_succ]; rfl) ?_
        | (with_reducible refine Fx.lab0 ?_
           first
             | refine Fx.moveT rfl rfl rfl (by simp only [List.set_cons_zero, List.set_cons_succ]; rfl) ?_
             | refine Fx.assignT rfl rfl rfl (by simp only [List.set_cons_zero, List.set_cons_succ]; rfl) ?_
             | refine Fx.pure_ rfl rfl (fun _ => by go_simp; first | done | rfl) (by simp only [List.set_cons_zero, List.set_cons_succ]; rfl) ?_)
        | (with_reducible refine Fx.lab1 ?_
           refine Fx.look rfl rfl (fun w' hC => by obtain ⟨hc, hf, hl⟩ := Ext.cells hC; go_simp; rfl) (by simp only [List.set_cons_zero, List.set_cons_succ]; rfl) ?_)
    refine Fx.done (fun w2 hC => ?_)
    go_wp2
    go_ret
    exact ⟨rfl, (hE.out.trans HC1.out).trans hC⟩
  · simp only [Option.getD_some, Option.isSome_some] at y0 y1 y2 ⊢
    obtain ⟨hf0, hf1⟩ := Hright.out x rfl
    have hcl := cl x.f.toNat (by omega)
    have hw : IntKind.u32.wrap (σ.lg x.f.toNat + 1) = σ.lg x.f.toNat + 1 := IntWalk.u32_in _ ⟨by omega, by omega⟩
    have hcb : (x.c != σ.lg x.f.toNat + 1) = true := by simpa using hc
    clear hc cl
    go_wp2
    refine wp_region_plan [(0,0),(1,0),(2,0),(3,1),(4,1),(5,0),(6,0),(7,0),(8,0),(9,0),(10,1),(11,0),(12,0),(13,0),(14,1),(15,0),(16,0),(17,0),(18,1),(19,0),(20,0),(21,0)] (by kernel_rfl) (by kernel_rfl) (by kernel_rfl) (Ext w1) (fun _ _ h k => h.trans k) (Ext.drawn _ _) ?_
    iterate 3
      first
        | refine Fx.skip rfl rfl (by simp only [List.set_cons_zero, List.set_cons_succ]; rfl) ?_
        | (with_reducible refine Fx.lab0 ?_
           first
             | refine Fx.moveT rfl rfl rfl (by simp only [List.set_cons_zero, List.set_cons_succ]; rfl) ?_
             | refine Fx.assignT rfl rfl rfl (by simp only [List.set_cons_zero, List.set_cons_succ]; rfl) ?_
             | refine Fx.pure_ rfl rfl (fun _ => by go_simp; first | done | rfl) (by simp only [List.set_cons_zero, List.set_cons_succ]; rfl) ?_)
        | (with_reducible refine Fx.lab1 ?_
           refine Fx.look rfl rfl (fun w' hC => by obtain ⟨hc, hf, hl⟩ := Ext.cells hC; go_simp; rfl) (by simp only [List.set_cons_zero, List.set_cons_succ]; rfl) ?_)
    refine Fx.look rfl rfl (op_load_Ms' yl y0 y1 y2 rfl) (by simp only [List.set_cons_zero, List.set_cons_succ]; rfl) ?_
    refine Fx.look rfl rfl (op_load_Ms' bl b0 b1 b2 rfl) (by simp only [List.set_cons_zero, List.set_cons_succ]; rfl) ?_
    refine Fx.pure_ (v := .bool false) rfl rfl (fun w => by rw [op_neq_Ms x x rfl rfl]; simp) (by simp only [List.set_cons_zero, List.set_cons_succ]; rfl) ?_
    iterate 16
      first
        | refine Fx.skip rfl rfl (by simp only [List.set_cons_zero, List.set_cons_succ]; rfl) ?_
        | (with_reducible refine Fx.lab0 ?_
           first
             | refine Fx.moveT rfl rfl rfl (by simp only [List.set_cons_zero, List.set_cons_succ]; rfl) ?_
             | refine Fx.assignT rfl rfl rfl (by simp only [List.set_cons_zero, List.set_cons_succ]; rfl) ?_
             | refine Fx.pure_ rfl rfl (fun _ => by go_simp; first | done | rfl) (by simp only [List.set_cons_zero, List.set_cons_succ]; rfl) ?_)
        | (with_reducible refine Fx.lab1 ?_
           refine Fx.look rfl rfl (fun w' hC => by obtain ⟨hc, hf, hl⟩ := Ext.cells hC; go_simp; rfl) (by simp only [List.set_cons_zero, List.set_cons_succ]; rfl) ?_)
    refine Fx.done (fun w2 hC => ?_)
    go_wp2
    go_ret
    exact ⟨rfl, (hE.out.trans HC1.out).trans hC⟩

def LayR (b sb mb : Nat) (lv : Value) (σ' : MSt) (w : World) (e : Ending) (w' : World) : Prop :=
  e = .returned (.bool true) ∧ ∃ lv', ModelAt w' b sb mb lv' σ' ∧ Mods (FM b sb mb lv) w w' ∧ ∀ y, lv'.ownBlock = some y → lv.ownBlock = some y ∨ w.heap.size ≤ y

theorem modF_lg {sv mv lv : Value} {lg : Nat → Int} {k : Nat} (hk : k < 16) (v : Int) (i : Nat) (hi : i < 19) : upd (modF sv mv lv lg) (2 + k) (.int .u32 v) i = modF sv mv lv (updI lg k v) i := by
  unfold upd modF updI
  by_cases h : i = 2 + k
  · subst h; rw [if_pos rfl, if_neg (by omega), if_neg (by omega), if_pos (by omega), if_pos (by omega)]
  · rw [if_neg h]
    by_cases h0 : i = 0
    · rw [if_pos h0, if_pos h0]
    · rw [if_neg h0, if_neg h0]
      by_cases h1 : i = 1
      · rw [if_pos h1, if_pos h1]
      · rw [if_neg h1, if_neg h1]
        by_cases h2 : i < 18
        · rw [if_pos h2, if_pos h2, if_neg (by omega)]
        · rw [if_neg h2, if_neg h2]
theorem modF_lv {sv mv lv lv' : Value} {lg : Nat → Int} (i : Nat) (hi : i < 19) : upd (modF sv mv lv lg) 18 lv' i = modF sv mv lv' lg i := by
  unfold upd modF
  by_cases h : i = 18
  · subst h; rw [if_pos rfl, if_neg (by omega), if_neg (by omega), if_neg (by omega)]
  · rw [if_neg h]
    by_cases h0 : i = 0
    · rw [if_pos h0, if_pos h0]
    · rw [if_neg h0, if_neg h0]
      by_cases h1 : i = 1
      · rw [if_pos h1, if_pos h1]
      · rw [if_neg h1, if_neg h1]
        rw [if_pos (by omega), if_pos (by omega)]

/-- What the three writes come to. -/
theorem ModelAt.laid {w2 w3 w4 w5 wa w6 : World} {b sb mb : Nat} {lv lv' : Value} {σ : MSt} {x : Ms} (hM : ModelAt w2 b sb mb lv σ) (hf : x.f.toNat < 16)
    (h3 : MapIs w3 mb idV Ms.val (kdel (x.f, x.c) σ.wt)) (h3' : Mods (· = mb) w2 w3) (ha : Ext w3 wa) (h4 : Ext (wa.setCell ⟨b, 2 + x.f.toNat, none⟩ (.int .u32 (σ.lg x.f.toNat + 1))) w4)
    (h5 : OwnMs w5 lv' (σ.log ++ [x])) (h5' : Mods (fun c => lv.ownBlock = some c) w4 w5) (h5'' : ∀ c, lv'.ownBlock = some c → lv.ownBlock = some c ∨ w4.heap.size ≤ c)
    (h6 : Ext (w5.setCell ⟨b, 18, none⟩ lv') w6) :
    ModelAt w6 b sb mb lv' (layS σ x) ∧ Mods (FM b sb mb lv) w2 w6 ∧ ∀ y, lv'.ownBlock = some y → lv.ownBlock = some y ∨ w2.heap.size ≤ y := by
  have m4 : Mods (· = b) wa w4 := (Mods.setCell wa b _ _).then_ h4
  have m6 : Mods (· = b) w5 w6 := (Mods.setCell w5 b _ _).then_ h6
  have s24 : w2.heap.size ≤ w4.heap.size := Nat.le_trans h3'.size (Nat.le_trans ha.size m4.size)
  have hbl : ∀ c, lv'.ownBlock = some c → lv.ownBlock = some c ∨ w2.heap.size ≤ c := fun c hc => (h5'' c hc).imp id (fun h => Nat.le_trans s24 h)
  have nb : ∀ c, lv.ownBlock = some c → c ≠ b ∧ c ≠ sb ∧ c ≠ mb := hM.d4
  have nb' : ∀ c, lv'.ownBlock = some c → c ≠ b ∧ c ≠ sb ∧ c ≠ mb := fun c hc => by
    rcases hbl c hc with h | h
    · exact hM.d4 c h
    · have h1 := hM.lt (x := b) (.inl rfl)
      have h2 := hM.lt (x := sb) (.inr (.inl rfl))
      have h3 := hM.lt (x := mb) (.inr (.inr (.inl rfl)))
      omega
  refine ⟨⟨?_, ?_, ?_, ?_, hM.d1, hM.d2, hM.d3, nb'⟩, ?_, hbl⟩
  · have o3 := (hM.obj.mods h3' hM.d2).ext ha
    have o4 := ((o3.set (i := 2 + x.f.toNat) (by omega) (.int .u32 (σ.lg x.f.toNat + 1))).ext h4).congr (modF_lg hf _)
    have o5 := o4.mods h5' (fun h => (nb b h).1 rfl)
    exact ((o5.set (i := 18) (by omega) lv').ext h6).congr modF_lv
  · exact ((((hM.seats.mods h3' hM.d3).ext ha).mods m4 (fun e => hM.d1 e.symm)).mods h5' (fun h => (nb sb h).2.1 rfl)).mods m6 (fun e => hM.d1 e.symm)
  · exact (((h3.ext ha).mods m4 (fun e => hM.d2 e.symm)).mods h5' (fun h => (nb mb h).2.2 rfl)).mods m6 (fun e => hM.d2 e.symm)
  · exact h5.mods m6 (fun c hc => (nb' c hc).1)
  · refine (((h3'.then_ ha).mono (T := FM b sb mb lv) (fun c _ h => .inr (.inr (.inl h)))).trans m4 (fun c _ h => .inl h)).trans ((h5'.mono (T := fun c => lv.ownBlock = some c ∨ c = b) (fun c _ h => .inl h)).trans m6 (fun c _ h => .inr h)) (fun c _ h => ?_)
    rcases h with h | h
    · exact .inr (.inr (.inr h))
    · exact .inl h

set_option maxRecDepth 100000 in
set_option maxHeartbeats 1600000 in
theorem lay_yes (b sb mb : Nat) (lv : Value) (σ : MSt) (x : Ms) (w : World) (hM : ModelAt w b sb mb lv σ) (hO : σ.Ok) (hlen : σ.log.length ≤ 1000000) (hB : layB σ x = true) :
    Calls Try.prog 33 #[.pointer (some ⟨b, 0, none⟩), x.val] w (LayR b sb mb lv (layS σ x) w) := by
  have hE0 := Ext.alloc w (.cells #[.int .i64 x.f, .int .u32 x.c, .string x.d] 34)
  have hM0 := hM.ext hE0
  have HM0 := Lib.hid hM0
  have hM1 := hM0.cells
  obtain ⟨c0, c1, c18, cl, sa, sd, fb, fs, lb, ls, lm⟩ := hM1
  have bx := box_Ms w x
  obtain ⟨b0, b1, b2⟩ := bx.ms
  have bl := bx.lt
  have hE := Lib.hid hE0
  have hbw : b ≠ w.heap.size := fun e => by have := hM.lt (x := b) (.inl rfl); omega
  have hmw : mb ≠ w.heap.size := fun e => by have := hM.lt (x := mb) (.inr (.inr (.inl rfl))); omega
  clear bx hE0 hM0 sa sd fs ls lm
  unfold layB at hB
  simp only [Bool.and_eq_true, decide_eq_true_eq] at hB
  obtain ⟨ho, hc⟩ := hB
  have hright : 0 ≤ x.f ∧ x.f < 16 := by
    have := (hO.wt _ (kfind_mem ho)).2
    simp only [rightB, decide_eq_true_eq] at this
    exact ⟨this.1, this.2.1⟩
  obtain ⟨hf0, hf1⟩ := hright
  have hlg0 := hO.lg0 x.f.toNat
  have hlg1 : σ.lg x.f.toNat + 1 ≤ 4294967294 := by
    have := (hO.wt _ (kfind_mem ho)).2
    simp only [rightB, decide_eq_true_eq] at this
    omega
  have hft : x.f.toNat < 16 := by omega
  replace cl := cl x.f.toNat hft
  have Ho := Lib.hid ho
  have Hc := Lib.hid hc
  clear ho hM hO hc
  have Hlg : ∃ q, σ.lg x.f.toNat = q := ⟨_, rfl⟩
  obtain ⟨q, hq⟩ := Hlg
  rw [hq] at hlg0 hlg1 cl
  have Hq := Lib.hid hq
  clear hq
  unfold Ms.val
  go_enter Try.func33, Try.ntmps33
  go_wp2
  generalize hW : w.alloc (.cells #[.int .i64 x.f, .int .u32 x.c, .string x.d] 34) = W at *
  refine wp_region_plan [(0,0),(1,0),(2,0),(3,1),(4,0),(5,1),(6,1),(7,0),(8,0),(9,0),(10,2),(11,3),(12,0)] (by kernel_rfl) (by kernel_rfl) (by kernel_rfl) (Ext W) (fun _ _ h k => h.trans k) (Ext.drawn _ _) ?_
  iterate 5
    first
      | refine Fx.skip rfl rfl (by simp only [List.set_cons_zero, List.set_cons_succ]; rfl) ?_
      | (with_reducible refine Fx.lab0 ?_
         first
           | refine Fx.moveT rfl rfl rfl (by simp only [List.set_cons_zero, List.set_cons_succ]; rfl) ?_
           | refine Fx.assignT rfl rfl rfl (by simp only [List.set_cons_zero, List.set_cons_succ]; rfl) ?_
           | refine Fx.pure_ rfl rfl (fun _ => by go_simp; first | done | rfl) (by simp only [List.set_cons_zero, List.set_cons_succ]; rfl) ?_)
      | (with_reducible refine Fx.lab1 ?_
         refine Fx.look rfl rfl (fun w' hC => by obtain ⟨hc, hf, hl⟩ := Ext.cells hC; go_simp; rfl) (by simp only [List.set_cons_zero, List.set_cons_succ]; rfl) ?_)
  refine Fx.look rfl rfl (op_load_Id' bl b0 b1 rfl) (by simp only [List.set_cons_zero, List.set_cons_succ]; rfl) ?_
  refine Fx.look (v := .tuple #[x.val, .bool true]) rfl rfl (fun w' hC => by rw [op_look (k := (x.f, x.c)) (HM0.out.map.ext hC) keysId Try.underlying63 (Try.zeroValue34 w') rfl rfl, Ho.out, lookVal]; rfl) (by simp only [List.set_cons_zero, List.set_cons_succ]; rfl) ?_
  iterate 3
    first
      | refine Fx.skip rfl rfl (by simp only [List.set_cons_zero, List.set_cons_succ]; rfl) ?_
      | (with_reducible refine Fx.lab0 ?_
         first
           | refine Fx.moveT rfl rfl rfl (by simp only [List.set_cons_zero, List.set_cons_succ]; rfl) ?_
           | refine Fx.assignT rfl rfl rfl (by simp only [List.set_cons_zero, List.set_cons_succ]; rfl) ?_
           | refine Fx.pure_ rfl rfl (fun _ => by go_simp; first | done | rfl) (by simp only [List.set_cons_zero, List.set_cons_succ]; rfl) ?_)
      | (with_reducible refine Fx.lab1 ?_
         refine Fx.look rfl rfl (fun w' hC => by obtain ⟨hc, hf, hl⟩ := Ext.cells hC; go_simp; rfl) (by simp only [List.set_cons_zero, List.set_cons_succ]; rfl) ?_)
  refine Fx.mkPtr (fun B w' => W.heap.size ≤ B ∧ Obj_ w' B 3 (msF ms0)) (fun B _ _ h k => ⟨h.1, h.2.ext k⟩) rfl rfl (fun w' hC => stepAt_alloc_Ms hC) (fun B => ?_)
  simp only [List.set_cons_zero, List.set_cons_succ]
  refine Fx.eff0 (LayPre W B x) (layPre_stable _ _ _) rfl rfl (fun w' hC => stepAt_mono (stepAt_store_Ms hC.1 hC.2.1 hC.2.2 x rfl rfl) (fun _ w'' h => ⟨h.1, hC.2.1, h.2⟩)) ?_
  first
    | refine Fx.skip rfl rfl (by simp only [List.set_cons_zero, List.set_cons_succ]; rfl) ?_
    | (with_reducible refine Fx.lab0 ?_
       first
         | refine Fx.moveT rfl rfl rfl (by simp only [List.set_cons_zero, List.set_cons_succ]; rfl) ?_
         | refine Fx.assignT rfl rfl rfl (by simp only [List.set_cons_zero, List.set_cons_succ]; rfl) ?_
         | refine Fx.pure_ rfl rfl (fun _ => by go_simp; first | done | rfl) (by simp only [List.set_cons_zero, List.set_cons_succ]; rfl) ?_)
    | (with_reducible refine Fx.lab1 ?_
       refine Fx.look rfl rfl (fun w' hC => by obtain ⟨hc, hf, hl⟩ := Ext.cells hC; go_simp; rfl) (by simp only [List.set_cons_zero, List.set_cons_succ]; rfl) ?_)
  refine Fx.done (fun w1 hC => ?_)
  obtain ⟨hC1, hB, hOb⟩ := hC
  obtain ⟨xc, xf, xl⟩ := hC1.cells
  replace c1 := (xc _ _ lb).trans c1
  replace c18 := (xc _ _ lb).trans c18
  replace b0 := (xc _ _ bl).trans b0
  replace b1 := (xc _ _ bl).trans b1
  replace b2 := (xc _ _ bl).trans b2
  replace cl := (xc _ _ lb).trans cl
  replace fb := fun o => (xf _ o lb).trans (fb o)
  replace lb := xl _ lb
  replace bl := xl _ bl
  have HC1 := Lib.hid hC1
  obtain ⟨y0, y1, y2⟩ := hOb.ms
  have yl := hOb.lt
  clear xc xf xl hC1 hOb
  have hw : IntKind.u32.wrap (q + 1) = q + 1 := IntWalk.u32_in _ ⟨by omega, by omega⟩
  have hcb : (x.c != q + 1) = false := by rw [← Hq.out, ← Hc.out]; simp
  go_wp2
  refine wp_region_plan [(0,0),(1,0),(2,0),(3,1),(4,1),(5,0),(6,0),(7,0),(8,0),(9,0),(10,1),(11,0),(12,0),(13,0),(14,1),(15,0),(16,0),(17,0),(18,1),(19,0),(20,0),(21,0)] (by kernel_rfl) (by kernel_rfl) (by kernel_rfl) (Ext w1) (fun _ _ h k => h.trans k) (Ext.drawn _ _) ?_
  iterate 3
    first
      | refine Fx.skip rfl rfl (by simp only [List.set_cons_zero, List.set_cons_succ]; rfl) ?_
      | (with_reducible refine Fx.lab0 ?_
         first
           | refine Fx.moveT rfl rfl rfl (by simp only [List.set_cons_zero, List.set_cons_succ]; rfl) ?_
           | refine Fx.assignT rfl rfl rfl (by simp only [List.set_cons_zero, List.set_cons_succ]; rfl) ?_
           | refine Fx.pure_ rfl rfl (fun _ => by go_simp; first | done | rfl) (by simp only [List.set_cons_zero, List.set_cons_succ]; rfl) ?_)
      | (with_reducible refine Fx.lab1 ?_
         refine Fx.look rfl rfl (fun w' hC => by obtain ⟨hc, hf, hl⟩ := Ext.cells hC; go_simp; rfl) (by simp only [List.set_cons_zero, List.set_cons_succ]; rfl) ?_)
  refine Fx.look rfl rfl (op_load_Ms' yl y0 y1 y2 rfl) (by simp only [List.set_cons_zero, List.set_cons_succ]; rfl) ?_
  refine Fx.look rfl rfl (op_load_Ms' bl b0 b1 b2 rfl) (by simp only [List.set_cons_zero, List.set_cons_succ]; rfl) ?_
  refine Fx.pure_ (v := .bool false) rfl rfl (fun w => by rw [op_neq_Ms x x rfl rfl]; simp) (by simp only [List.set_cons_zero, List.set_cons_succ]; rfl) ?_
  iterate 16
    first
      | refine Fx.skip rfl rfl (by simp only [List.set_cons_zero, List.set_cons_succ]; rfl) ?_
      | (with_reducible refine Fx.lab0 ?_
         first
           | refine Fx.moveT rfl rfl rfl (by simp only [List.set_cons_zero, List.set_cons_succ]; rfl) ?_
           | refine Fx.assignT rfl rfl rfl (by simp only [List.set_cons_zero, List.set_cons_succ]; rfl) ?_
           | refine Fx.pure_ rfl rfl (fun _ => by go_simp; first | done | rfl) (by simp only [List.set_cons_zero, List.set_cons_succ]; rfl) ?_)
      | (with_reducible refine Fx.lab1 ?_
         refine Fx.look rfl rfl (fun w' hC => by obtain ⟨hc, hf, hl⟩ := Ext.cells hC; go_simp; rfl) (by simp only [List.set_cons_zero, List.set_cons_succ]; rfl) ?_)
  refine Fx.done (fun w2 hC => ?_)
  have HM2 := Lib.hid ((HM0.out.ext HC1.out).ext hC)
  have HE2 := Lib.hid ((hE.out.trans HC1.out).trans hC)
  obtain ⟨xc, xf, xl⟩ := hC.cells
  replace c1 := (xc _ _ lb).trans c1
  replace c18 := (xc _ _ lb).trans c18
  replace b0 := (xc _ _ bl).trans b0
  replace b1 := (xc _ _ bl).trans b1
  replace b2 := (xc _ _ bl).trans b2
  replace cl := (xc _ _ lb).trans cl
  replace fb := fun o => (xf _ o lb).trans (fb o)
  replace lb := xl _ lb
  replace bl := xl _ bl
  clear xc xf xl hC y0 y1 y2 yl hcb
  go_wp2
  refine wp_region_plan [(0,0),(1,0),(2,0),(3,1),(4,0),(5,1),(6,3)] (by kernel_rfl) (by kernel_rfl) (by kernel_rfl) (Ext w2) (fun _ _ h k => h.trans k) (Ext.drawn _ _) ?_
  iterate 5
    first
      | refine Fx.skip rfl rfl (by simp only [List.set_cons_zero, List.set_cons_succ]; rfl) ?_
      | (with_reducible refine Fx.lab0 ?_
         first
           | refine Fx.moveT rfl rfl rfl (by simp only [List.set_cons_zero, List.set_cons_succ]; rfl) ?_
           | refine Fx.assignT rfl rfl rfl (by simp only [List.set_cons_zero, List.set_cons_succ]; rfl) ?_
           | refine Fx.pure_ rfl rfl (fun _ => by go_simp; first | done | rfl) (by simp only [List.set_cons_zero, List.set_cons_succ]; rfl) ?_)
      | (with_reducible refine Fx.lab1 ?_
         refine Fx.look rfl rfl (fun w' hC => by obtain ⟨hc, hf, hl⟩ := Ext.cells hC; go_simp; rfl) (by simp only [List.set_cons_zero, List.set_cons_succ]; rfl) ?_)
  refine Fx.look rfl rfl (op_load_Id' bl b0 b1 rfl) (by simp only [List.set_cons_zero, List.set_cons_succ]; rfl) ?_
  refine Fx.eff0 (fun w' => MapIs w' mb idV Ms.val (kdel (x.f, x.c) σ.wt) ∧ Mods (· = mb) w2 w') (fun _ _ h k => ⟨h.1.ext k, h.2.then_ k⟩) rfl rfl (fun w' hC => ?_) ?_
  · exact stepAt_mono (stepAt_del (k := (x.f, x.c)) (HM2.out.map.ext hC) keysId Try.underlying63 rfl rfl) (fun _ w'' hh => ⟨hh.1, hh.2.after hC⟩)
  refine Fx.done (fun w3 hC => ?_)
  obtain ⟨xc, xf, xl⟩ := hC.2.cells
  have hbm := HM2.out.d2
  replace c18 := (xc _ _ lb hbm).trans c18
  replace b0 := (xc _ _ bl hmw.symm).trans b0
  replace b1 := (xc _ _ bl hmw.symm).trans b1
  replace b2 := (xc _ _ bl hmw.symm).trans b2
  replace cl := (xc _ _ lb hbm).trans cl
  replace fb := fun o => (xf _ o lb hbm).trans (fb o)
  replace lb := xl _ lb
  replace bl := xl _ bl
  have H3 := Lib.hid hC
  clear xc xf xl hC c1
  go_wp2
  refine wp_region_plan [(0,0),(1,0),(2,0),(3,1),(4,0),(5,0),(6,0),(7,1),(8,0),(9,0),(10,0),(11,0),(12,3)] (by kernel_rfl) (by kernel_rfl) (by kernel_rfl) (Ext w3) (fun _ _ h k => h.trans k) (Ext.drawn _ _) ?_
  iterate 12
    first
      | refine Fx.skip rfl rfl (by simp only [List.set_cons_zero, List.set_cons_succ]; rfl) ?_
      | (with_reducible refine Fx.lab0 ?_
         first
           | refine Fx.moveT rfl rfl rfl (by simp only [List.set_cons_zero, List.set_cons_succ]; rfl) ?_
           | refine Fx.assignT rfl rfl rfl (by simp only [List.set_cons_zero, List.set_cons_succ]; rfl) ?_
           | refine Fx.pure_ rfl rfl (fun _ => by go_simp; first | done | rfl) (by simp only [List.set_cons_zero, List.set_cons_succ]; rfl) ?_)
      | (with_reducible refine Fx.lab1 ?_
         refine Fx.look rfl rfl (fun w' hC => by obtain ⟨hc, hf, hl⟩ := Ext.cells hC; go_simp; rfl) (by simp only [List.set_cons_zero, List.set_cons_succ]; rfl) ?_)
  refine Fx.store ⟨b, 2 + x.f.toNat, none⟩ (.int .u32 (q + 1)) rfl rfl (fun w' hC => by obtain ⟨hc, hf, hl⟩ := Ext.cells hC; go_simp) ?_
  refine Fx.done (fun w4 hC => ?_)
  obtain ⟨wa, ha, h4⟩ := hC
  obtain ⟨xc, xf, xl⟩ := ha.cells
  obtain ⟨zc, zf, zl⟩ := h4.cells
  have zl' : ∀ c, c < w3.heap.size → c < (wa.setCell ⟨b, 2 + x.f.toNat, none⟩ (.int .u32 (q + 1))).heap.size := fun c hc => by simp [World.setCell]; exact xl _ hc
  obtain ⟨sc, sf, _⟩ := (Mods.setCell wa b (2 + x.f.toNat) (.int .u32 (q + 1))).cells
  replace c18 : w4.cell? ⟨b, 18, none⟩ = some lv := by
    rw [zc _ _ (zl' _ lb), World.cell?_setCell_other _ _ _ _ (by intro e; injection e with _ e; omega), xc _ _ lb]; exact c18
  replace b0 := (zc _ 0 (zl' _ bl)).trans ((sc _ 0 (xl _ bl) hbw.symm).trans ((xc _ _ bl).trans b0))
  replace b1 := (zc _ 1 (zl' _ bl)).trans ((sc _ 1 (xl _ bl) hbw.symm).trans ((xc _ _ bl).trans b1))
  replace b2 := (zc _ 2 (zl' _ bl)).trans ((sc _ 2 (xl _ bl) hbw.symm).trans ((xc _ _ bl).trans b2))
  replace fb : ∀ o, w4.frozen? ⟨b, o, none⟩ = false := fun o => by
    rw [zf _ _ (zl' _ lb), World.frozen?_setCell, xf _ _ lb]; exact fb o
  have m4 : Mods (· = b) wa w4 := (Mods.setCell wa b _ _).then_ h4
  have HL4 := Lib.hid ((((HM2.out.log.mods H3.out.2 (fun c hc => (HM2.out.d4 c hc).2.2)).ext ha).mods m4 (fun c hc => (HM2.out.d4 c hc).1)))
  have l4 := zl _ (zl' _ lb)
  have l5 := zl _ (zl' _ bl)
  have Ha := Lib.hid ha
  have H4 := Lib.hid h4
  have hlb : ∀ c, lv.ownBlock = some c → c ≠ b := fun c hc => (HM2.out.d4 c hc).1
  have Hlb := Lib.hid hlb
  clear xc xf xl zc zf zl zl' sc sf ha h4 m4 cl lb bl hlb
  replace lb := l4
  replace bl := l5
  go_wp2
  refine wp_region_plan [(0,0),(1,0),(2,0),(3,0),(4,1),(5,1),(6,2),(7,3),(8,0),(9,0),(10,3)] (by kernel_rfl) (by kernel_rfl) (by kernel_rfl) (Ext w4) (fun _ _ h k => h.trans k) (Ext.drawn _ _) ?_
  iterate 5
    first
      | refine Fx.skip rfl rfl (by simp only [List.set_cons_zero, List.set_cons_succ]; rfl) ?_
      | (with_reducible refine Fx.lab0 ?_
         first
           | refine Fx.moveT rfl rfl rfl (by simp only [List.set_cons_zero, List.set_cons_succ]; rfl) ?_
           | refine Fx.assignT rfl rfl rfl (by simp only [List.set_cons_zero, List.set_cons_succ]; rfl) ?_
           | refine Fx.pure_ rfl rfl (fun _ => by go_simp; first | done | rfl) (by simp only [List.set_cons_zero, List.set_cons_succ]; rfl) ?_)
      | (with_reducible refine Fx.lab1 ?_
         refine Fx.look rfl rfl (fun w' hC => by obtain ⟨hc, hf, hl⟩ := Ext.cells hC; go_simp; rfl) (by simp only [List.set_cons_zero, List.set_cons_succ]; rfl) ?_)
  refine Fx.look rfl rfl (op_load_Ms' bl b0 b1 b2 rfl) (by simp only [List.set_cons_zero, List.set_cons_succ]; rfl) ?_
  refine Fx.mkSl 1 1 (fun B w' => MsL w' (.slice (some ⟨B, 0, none⟩) 1 1) [x]) (fun B _ _ h k => h.ext k) rfl rfl (fun w' hC => stepAt_lit1 hC x rfl) (fun B => ?_)
  simp only [List.set_cons_zero, List.set_cons_succ]
  refine Fx.eff (fun v' w' => OwnMs w' v' (σ.log ++ [x]) ∧ Mods (fun c => lv.ownBlock = some c) w4 w' ∧ (∀ c, v'.ownBlock = some c → lv.ownBlock = some c ∨ w4.heap.size ≤ c)) (fun v _ _ h k => ⟨h.1.ext k, h.2.1.then_ k, h.2.2⟩) rfl rfl
    (fun w' hC => stepAt_append hC.1 (HL4.out.ext hC.1) hC.2 (by simp; omega) rfl rfl) (fun lv' => ?_)
  simp only [List.set_cons_zero, List.set_cons_succ]
  iterate 2
    first
      | refine Fx.skip rfl rfl (by simp only [List.set_cons_zero, List.set_cons_succ]; rfl) ?_
      | (with_reducible refine Fx.lab0 ?_
         first
           | refine Fx.moveT rfl rfl rfl (by simp only [List.set_cons_zero, List.set_cons_succ]; rfl) ?_
           | refine Fx.assignT rfl rfl rfl (by simp only [List.set_cons_zero, List.set_cons_succ]; rfl) ?_
           | refine Fx.pure_ rfl rfl (fun _ => by go_simp; first | done | rfl) (by simp only [List.set_cons_zero, List.set_cons_succ]; rfl) ?_)
      | (with_reducible refine Fx.lab1 ?_
         refine Fx.look rfl rfl (fun w' hC => by obtain ⟨hc, hf, hl⟩ := Ext.cells hC; go_simp; rfl) (by simp only [List.set_cons_zero, List.set_cons_succ]; rfl) ?_)
  refine Fx.store ⟨b, 18, none⟩ lv' rfl rfl (fun w' hC => by
    obtain ⟨hc, hf, hl⟩ := hC.2.1.cells
    have e1 := (hc b 18 lb (fun h => Hlb.out _ h rfl)).trans c18
    have e2 := (hf b 18 lb (fun h => Hlb.out _ h rfl)).trans (fb 18)
    obtain ⟨A, n, vv⟩ : ∃ A n cap, lv' = .slice A n cap := by obtain ⟨A, cap, e, _⟩ := hC.1.val; exact ⟨_, _, _, e⟩
    obtain ⟨cap, rfl⟩ := vv
    clear hc hf hl hC
    go_simp) ?_
  refine Fx.done (fun w6 hC => ?_)
  obtain ⟨w5, ⟨h5, h5', h5''⟩, h6⟩ := hC
  have hfin := HM2.out.laid (x := x) hft H3.out.1 H3.out.2 Ha.out (by rw [Hq.out]; exact H4.out) h5 h5' h5'' h6
  have HF := Lib.hid hfin
  clear hfin h5 h5' h5'' h6
  go_wp2
  go_ret
  obtain ⟨f1, f2, f3⟩ := HF.out
  exact ⟨rfl, lv', f1, f2.after HE2.out, fun y hy => (f3 y hy).imp id (fun h => Nat.le_trans HE2.out.size h)⟩
end Go.Proofs.Ytfnchpjiebojiaa
