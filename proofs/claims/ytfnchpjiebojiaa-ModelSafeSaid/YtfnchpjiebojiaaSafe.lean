/-
  rostrumlaw16.ModelSafe: what it computes.
-/
import Derived.Test.YtfnchpjiebojiaaOrder
import Derived.Test.YtfnchpjiebojiaaFlex3
import Derived.Lib.MinMax
namespace Go.Proofs.Ytfnchpjiebojiaa
open Go.RowKit
attribute [local go_sem] Oper.semAt_some

def lgs (σ : MSt) (j : Nat) : List Ms := σ.log.take (σ.del j)
def accN (l : List Hp) (k : Nat) : List Ms := (l.take k).foldl accL []
theorem accN_zero (l : List Hp) : accN l 0 = [] := by simp [accN]
theorem accN_succ (l : List Hp) {k : Nat} (hk : k < l.length) : accN l (k + 1) = accL (accN l k) l[k] := by
  unfold accN; rw [List.take_succ_eq_append_getElem hk, List.foldl_append]; rfl
theorem accN_len (l : List Hp) : ∀ k, (accN l k).length ≤ k
  | 0 => by simp [accN]
  | k + 1 => by
    by_cases hk : k < l.length
    · rw [accN_succ l hk]; have := accN_len l k; unfold accL; split <;> simp <;> omega
    · have : accN l (k + 1) = accN l k := by unfold accN; rw [List.take_of_length_le (by omega), List.take_of_length_le (by omega)]
      rw [this]; have := accN_len l k; omega
theorem accN_al {n : Nat} (h1 : 1 ≤ n) (h16 : n ≤ 16) (l : List Hp) : ∀ k, k ≤ okN (st0 n) l → Al (stN (st0 n) l k) (accN l k)
  | 0, _ => by rw [stN_zero, accN_zero]; exact ⟨by simp [st0], by simp [st0]⟩
  | k + 1, hk => by
    have hl := okN_le (st0 n) l
    rw [stN_succ _ _ (by omega), accN_succ l (by omega)]
    exact al_step (hapB_lt _ _ k (by omega) (by omega)) (accN_al h1 h16 l k (by omega))

/-- The sixteen logs and what was accepted, in memory. -/
structure SafeI (w2 : World) (nb : Nat) (LV : Nat → Value) (iv : Value) (lg : Nat → List Ms) (A : List Ms) (w : World) : Prop where
  obj : Obj_ w nb 16 LV
  own : ∀ j, j < 16 → OwnMs w (LV j) (lg j)
  inn : OwnMs w iv A
  fl : ∀ j, j < 16 → ∀ y, (LV j).ownBlock = some y → w2.heap.size ≤ y ∧ y ≠ nb
  fi : ∀ y, iv.ownBlock = some y → w2.heap.size ≤ y ∧ y ≠ nb
  dj : ∀ i j, i < 16 → j < 16 → i ≠ j → ∀ y, (LV i).ownBlock = some y → (LV j).ownBlock ≠ some y
  di : ∀ j, j < 16 → ∀ y, (LV j).ownBlock = some y → iv.ownBlock ≠ some y
  ext : Ext w2 w
theorem SafeI.ext' {w2 w w' : World} {nb : Nat} {LV : Nat → Value} {iv : Value} {lg : Nat → List Ms} {A : List Ms} (h : SafeI w2 nb LV iv lg A w) (he : Ext w w') : SafeI w2 nb LV iv lg A w' :=
  ⟨h.obj.ext he, fun j hj => (h.own j hj).ext he, h.inn.ext he, h.fl, h.fi, h.dj, h.di, h.ext.trans he⟩
theorem SafeI.congr {w2 w : World} {nb : Nat} {LV : Nat → Value} {iv : Value} {lg lg' : Nat → List Ms} {A : List Ms} (h : SafeI w2 nb LV iv lg A w) (e : ∀ j, j < 16 → lg' j = lg j) : SafeI w2 nb LV iv lg' A w :=
  ⟨h.obj, fun j hj => by rw [e j hj]; exact h.own j hj, h.inn, h.fl, h.fi, h.dj, h.di, h.ext⟩
/-- One more was accepted. -/
theorem SafeI.acc {w2 w w' : World} {nb : Nat} {LV : Nat → Value} {iv iv' : Value} {lg : Nat → List Ms} {A A' : List Ms} (h : SafeI w2 nb LV iv lg A w) (ho : OwnMs w' iv' A') (hm : Mods (fun c => iv.ownBlock = some c) w w')
    (hf : ∀ c, iv'.ownBlock = some c → iv.ownBlock = some c ∨ w.heap.size ≤ c) (hnb : nb < w.heap.size) : SafeI w2 nb LV iv' lg A' w' := by
  have hd : ∀ j, j < 16 → ∀ y, (LV j).ownBlock = some y → iv.ownBlock ≠ some y := h.di
  refine ⟨h.obj.mods hm (fun e => (h.fi nb e).2 rfl), fun j hj => (h.own j hj).mods hm (fun y hy e => hd j hj y hy e), ho, h.fl, fun y hy => ?_, h.dj, fun j hj y hy e => ?_, ?_⟩
  · rcases hf y hy with h' | h'
    · exact h.fi y h'
    · have := h.ext.size; exact ⟨by omega, by omega⟩
  · rcases hf y e with h' | h'
    · exact hd j hj y hy h'
    · have := (h.own j hj).lt hy; omega
  · exact ((h.ext.mods _).trans hm (fun _ _ h => h)).ext_of (fun x hx e => by have := (h.fi x e).1; omega)
/-- One more was delivered at nd. -/
theorem SafeI.del {w2 w w5 w' : World} {nb : Nat} {LV : Nat → Value} {iv v' : Value} {lg : Nat → List Ms} {A : List Ms} {nd : Nat} {l' : List Ms} (h : SafeI w2 nb LV iv lg A w) (hnd : nd < 16) (ho : OwnMs w5 v' l') (hm : Mods (fun c => (LV nd).ownBlock = some c) w w5)
    (hf : ∀ c, v'.ownBlock = some c → (LV nd).ownBlock = some c ∨ w.heap.size ≤ c) (h2 : w2.heap.size ≤ nb) (hw : w' = w5.setCell ⟨nb, nd, none⟩ v') : SafeI w2 nb (upd LV nd v') iv (fun j => if j = nd then l' else lg j) A w' := by
  have m6 : Mods (· = nb) w5 w' := hw ▸ Mods.setCell w5 nb nd v'
  have hnbl := h.obj.lt
  have nv : ∀ y, v'.ownBlock = some y → w2.heap.size ≤ y ∧ y ≠ nb := fun y hy => by
    rcases hf y hy with h' | h'
    · exact h.fl nd hnd y h'
    · have := h.ext.size; exact ⟨by omega, by omega⟩
  refine ⟨?_, fun j hj => ?_, ?_, fun j hj y hy => ?_, h.fi, fun i j hi hj hij y hy e => ?_, fun j hj y hy e => ?_, ?_⟩
  · rw [hw]; exact (h.obj.mods hm (fun e => (h.fl nd hnd nb e).2 rfl)).set hnd v'
  · by_cases hjn : j = nd
    · subst hjn
      simp only [upd, if_pos]
      exact ho.mods m6 (fun y hy => (nv y hy).2)
    · simp only [upd, if_neg hjn]
      exact ((h.own j hj).mods hm (fun y hy e => h.dj j nd hj hnd hjn y hy e)).mods m6 (fun y hy => (h.fl j hj y hy).2)
  · exact (h.inn.mods hm (fun y hy e => h.di nd hnd y e hy)).mods m6 (fun y hy => (h.fi y hy).2)
  · by_cases hjn : j = nd
    · subst hjn; simp only [upd, if_pos] at hy; exact nv y hy
    · simp only [upd, if_neg hjn] at hy; exact h.fl j hj y hy
  · by_cases hin : i = nd
    · subst hin
      simp only [upd, if_pos] at hy
      simp only [upd, if_neg (Ne.symm hij)] at e
      rcases hf y hy with h' | h'
      · exact h.dj i j hi hj hij y h' e
      · have := (h.own j hj).lt e; omega
    · simp only [upd, if_neg hin] at hy
      by_cases hjn : j = nd
      · subst hjn
        simp only [upd, if_pos] at e
        rcases hf y e with h' | h'
        · exact h.dj i j hi hj hij y hy h'
        · have := (h.own i hi).lt hy; omega
      · simp only [upd, if_neg hjn] at e
        exact h.dj i j hi hj hij y hy e
  · by_cases hjn : j = nd
    · subst hjn
      simp only [upd, if_pos] at hy
      rcases hf y hy with h' | h'
      · exact h.di j hj y h' e
      · have := h.inn.lt e; omega
    · simp only [upd, if_neg hjn] at hy
      exact h.di j hj y hy e
  · exact (((h.ext.mods (fun c => (LV nd).ownBlock = some c ∨ c = nb)).trans hm (fun _ _ h => .inl h)).trans m6 (fun _ _ h => .inr h)).ext_of (fun x hx e => by
      rcases e with e | e
      · have := (h.fl nd hnd x e).1; omega
      · omega)
theorem lgs_step {σ : MSt} {h : Hp} (hO : σ.Ok) (hS : Sq σ) (hB : hapB σ h = true) (j : Nat) : lgs (hapT σ h) j = lgs σ j ++ (if h.k = 3 ∧ j = h.n.toNat then [h.m] else []) := take_step hO hS hB j
theorem infoLogs : (Try.prog.info? 29).map (fun i => (i.zero, i.size, i.bytes)) = some (some (.agg (Array.replicate 16 (.slice none 0 0))), 16, 384) := by kernel_rfl
theorem run_allocLogs (w : World) : (Instr.alloc 29 true (.tuple #[])).run Try.prog w = .ok (.pointer (some ⟨w.heap.size, 0, none⟩)) (w.alloc (.cells (Array.replicate 16 (.slice none 0 0)) 29)) := by
  simp [go_sem, run_zero_of infoLogs]
theorem stepAt_allocLogs {a : Act} {d : Option Tmp} {t : TypeId} {s : String} {af : Array Edge} {g : Option (Nat × Bool)} {W w : World} (hC : Ext W w) : stepAt Try.prog ⟨d, .alloc 29, t, s, af, g⟩ a w (fun u w' => ∃ b, u = .pointer (some ⟨b, 0, none⟩) ∧ Ext w w' ∧ W.heap.size ≤ b ∧ Obj_ w' b 16 (fun _ => .slice none 0 0)) := by
  unfold stepAt
  simp only [execOp, Sem.run_bind, run_allocLogs, Result.andThen_ok]
  have h := Obj_.new w 29 (Array.replicate 16 (.slice none 0 0)) (fun _ => .slice none 0 0) (fun i hi => by
    rw [Array.size_replicate] at hi
    rw [Array.getElem?_replicate, if_pos hi])
  rw [Array.size_replicate] at h
  exact ⟨_, rfl, Ext.alloc _ _, hC.size, h⟩
theorem Sl.take {α : Type} {enc : α → List Value} {k : Nat} {w : World} {A : Option Addr} {n cap m : Nat} {l : List α} (h : Sl enc k w (.slice A n cap) l) (hm : m ≤ l.length) : Sl enc k w (.slice A m cap) (l.take m) := by
  obtain ⟨A', cap', e, h1, h2, h3⟩ := h
  injection e with e1 e2 e3
  subst e1; subst e3
  refine ⟨A, cap, by rw [List.length_take, Nat.min_eq_left hm], by rw [List.length_take]; omega, h2, fun hne => ?_⟩
  obtain ⟨b, off, e, hb, hc⟩ := h3 (fun h => hne (by rw [h]; simp))
  refine ⟨b, off, e, hb, fun j x hx i u hu => hc j x ?_ i u hu⟩
  rw [List.getElem?_take] at hx
  split at hx
  · exact hx
  · cases hx
theorem run_neq_Id (a b : Int × Int) (w : World) : (binOp .neq 32 (idV a) (idV b)).run Try.prog w = .ok (.bool (!decide (a = b))) w := by
  have := run_equalIn_Id 9998 a.1 a.2 b.1 b.2 w
  unfold idV
  rw [run_neq_struct, this]
  have e : (decide (a = b)) = (a.1 == b.1 && a.2 == b.2) := by
    obtain ⟨a1, a2⟩ := a
    obtain ⟨b1, b2⟩ := b
    by_cases h1 : a1 = b1 <;> by_cases h2 : a2 = b2 <;> simp [h1, h2]
  rw [e]; rfl
theorem guard_Id (op : BinOp) (x y : Operand) (a b : Int × Int) (w : World) : (eqGuard op 32 x y (idV a) (idV b)).run Try.prog w = .ok () w :=
  run_eqGuard_agg w op _ x y _ _ (by kernel_rfl)
theorem op_neq_Id {ρ : Operand → Value} {d : Option Tmp} {x y : Operand} {u t : TypeId} {s : String} {af : Array Edge} {g : Option (Nat × Bool)} (a b : Int × Int) (hx : ρ x = idV a) (hy : ρ y = idV b) (w : World) :
    (execOp ρ ⟨d, .binOp .neq 32 x y u, t, s, af, g⟩).run Try.prog w = .ok (.value (.bool (!decide (a = b)))) w := by
  simp only [execOp, hx, hy, Sem.run_bind, guard_Id, run_neq_Id, Result.andThen_ok]; rfl

set_option maxRecDepth 100000 in
set_option maxHeartbeats 6400000 in
theorem safe_at (w : World) (n : Int) (v : Value) (l : List Hp) (hl : HpL w v l) :
    Calls Try.prog 3 #[.int .i64 n, v] w (OrdP w) := by
  have HL := Lib.hid hl
  obtain ⟨A, cap, rfl, hcap, hmax⟩ := hl.val
  clear hl hcap hmax
  go_enter Try.func3, Try.ntmps3
  go_upto_region 2 with (go_at_call 9; refine (shown_at _).mono ?_; rintro e w1 ⟨rfl, hE1⟩; have H1 := Lib.hid hE1; clear hE1)
  go_upto_region 3 with (go_at_call 10; refine (few_at _ _ l (HL.out.ext H1.out)).mono ?_; rintro e w2 ⟨fv, rfl, hown, hE2, hblk⟩; obtain ⟨fA, fcap, rfl, hfc⟩ := hown.val; have HF := Lib.hid hown; have H2 := Lib.hid hE2; have HB := Lib.hid hblk; clear hown hE2 hblk hfc)
  have hL100 : (fewL l).length ≤ 100 := by unfold fewL; rw [List.length_map]; exact List.length_take_le _ _
  have HL2 := Lib.hid (HF.out.sl Hp.len)
  have HE2 := Lib.hid (H1.out.trans H2.out)
  clear HF HB HL H1 H2
  generalize fewL l = L at *
  by_cases hn : 1 ≤ n ∧ n ≤ 16
  · obtain ⟨N, rfl⟩ : ∃ N : Nat, n = N := ⟨n.toNat, by omega⟩
    obtain ⟨hn1, hn16⟩ := hn
    obtain ⟨K, hK⟩ : ∃ K, okN (st0 N) L = K := ⟨_, rfl⟩
    obtain ⟨ec, hec⟩ : ∃ ec : Int, (if okN (st0 N) L = L.length then 0 else 160) = ec := ⟨_, rfl⟩
    have hec2 : (ec == 2) = false := by rw [← hec]; split <;> decide
    have hKl : K ≤ L.length := by rw [← hK]; exact okN_le _ _
    have HK := Lib.hid hK
    have Hec := Lib.hid hec
    clear hK hec
    go_upto_region 4 with (go_at_call 11; refine (check_at _ N (by omega) (by omega) _ L HL2.out (by omega)).mono ?_; rintro e w3 ⟨h3, hE3⟩; rw [Hec.out, HK.out] at h3; subst h3; have H3 := Lib.hid hE3; clear hE3)
    go_upto_region 6 with fail
    refine wp_region_line [(0,2)] (by kernel_rfl) (by kernel_rfl) (Ext w3) (fun _ _ h k => h.trans k) (Ext.refl _) ?_
    refine Fx.mkPtr (fun B w' => w3.heap.size ≤ B ∧ Obj_ w' B 16 (fun _ => .slice none 0 0)) (fun B _ _ h k => ⟨h.1, h.2.ext k⟩) rfl rfl (fun w' hC => stepAt_allocLogs hC) (fun nb => ?_)
    simp only [List.set_cons_zero, List.set_cons_succ]
    refine Fx.done (fun w4 hC => ?_)
    obtain ⟨hC1, hnb, hON⟩ := hC
    have HI4 : Hid (SafeI w2 nb (fun _ => .slice none 0 0) (.slice none 0 0) (lgs (st0 N)) [] w4) := Lib.hid ⟨hON, fun j _ => by
      have : lgs (st0 N) j = [] := by simp [lgs, st0]
      rw [this]; exact Own.nil, Own.nil, fun j _ y hy => by simp [Value.ownBlock] at hy, fun y hy => by simp [Value.ownBlock] at hy, fun i j _ _ _ y hy => by simp [Value.ownBlock] at hy, fun j _ y hy => by simp [Value.ownBlock] at hy, H3.out.trans hC1⟩
    have Hnb := Lib.hid (Nat.le_trans H3.out.size hnb)
    clear hC1 hnb hON
    go_wp2
    go_loopw [9, 10] (fun iv q wr => ∃ (k : Nat) (LV : Nat → Value), k ≤ K ∧ q = .int .i64 k ∧ Hid (SafeI w2 nb LV iv (lgs (stN (st0 N) L k)) (accN L k) wr)) (fun _ q _ => K - (intOf q).toNat)
    case atStart => exact ⟨0, _, Nat.zero_le _, rfl, by rw [stN_zero, accN_zero]; exact HI4⟩
    case round =>
      obtain ⟨k, LV, hk, rfl, hI⟩ := hrel
      have hK100 : K ≤ 100 := by omega
      by_cases hlt : k < K
      · have hkl : k < L.length := by omega
        obtain ⟨sb2, so2, he, hbl2, d0, d1, d2, d3, d4⟩ := Sl.at5 (HL2.out.ext hI.out.ext) hkl
        injection he with hA1 hA2 hA3
        subst hA1
        clear hA2 hA3
        have hst := stN_succ (st0 N) L hkl
        have hac := accN_succ L hkl
        have hal := accN_al (n := N) (by omega) (by omega) L k (by rw [HK.out]; omega)
        have hsig := stN_ok (st0_ok (n := N) (by omega) (by omega)) L k
        have hsq := stN_sq (st0_ok (n := N) (by omega) (by omega)) (sq0 N) L k
        have hB := hapB_lt (st0 N) L k hkl (by rw [HK.out]; exact hlt)
        have hAl := accN_len L k
        obtain ⟨h, hh⟩ : ∃ h, L[k] = h := ⟨_, rfl⟩
        rw [hh] at d0 d1 d2 d3 d4 hst hB hac
        obtain ⟨σ, hσ⟩ : ∃ σ, stN (st0 N) L k = σ := ⟨_, rfl⟩
        rw [hσ] at hI hst hsig hsq hB hal
        obtain ⟨AC, hAC⟩ : ∃ AC, accN L k = AC := ⟨_, rfl⟩
        rw [hAC] at hI hac hal hAl
        obtain ⟨iA, icap, rfl, -⟩ := hI.out.inn.val
        obtain ⟨m4, m5⟩ := hapB_node hB
        have hsn : σ.n = N := hsig.2.2
        obtain ⟨nd, hnd⟩ : ∃ nd : Nat, h.n = nd := ⟨h.n.toNat, by omega⟩
        have hnd16 : nd < 16 := by omega
        have Hst := Lib.hid hst
        have Hac := Lib.hid hac
        have Hal := Lib.hid hal
        have Hsig := Lib.hid hsig
        have Hsq := Lib.hid hsq
        have HB := Lib.hid hB
        have Hnd := Lib.hid hnd
        have HAl := Lib.hid hAl
        clear hh hσ hAC hst hsig hsq hB hac hal hAl m4
        go_upto_region 11 with fail
        refine wp_region_line [(0,0),(1,0),(2,0),(3,1),(4,2),(5,3)] (by kernel_rfl) (by kernel_rfl) (Ext wr) (fun _ _ h k => h.trans k) (Ext.refl _) ?_
        iterate 3
          first
            | refine Fx.skip rfl rfl (by simp only [List.set_cons_zero, List.set_cons_succ]; rfl) ?_
            | (with_reducible refine Fx.lab0 ?_
               first
                 | refine Fx.moveT rfl rfl rfl (by simp only [List.set_cons_zero, List.set_cons_succ]; rfl) ?_
                 | refine Fx.assignT rfl rfl rfl (by simp only [List.set_cons_zero, List.set_cons_succ]; rfl) ?_
                 | refine Fx.pure_ rfl rfl (fun _ => by go_simp; first | done | rfl) (by simp only [List.set_cons_zero, List.set_cons_succ]; rfl) ?_)
            | (with_reducible refine Fx.lab1 ?_
               refine Fx.look rfl rfl (fun w' hC => by obtain ⟨hc, hf, hl⟩ := Ext.cells hC; go_simp; rfl) (by simp only [List.set_cons_zero, List.set_cons_succ]; rfl) ?_)
        refine Fx.look rfl rfl (op_load_Hp' (h := h) hbl2 d0 d1 d2 d3 d4 rfl) (by simp only [List.set_cons_zero, List.set_cons_succ]; rfl) ?_
        refine Fx.mkPtr (fun B w' => wr.heap.size ≤ B ∧ Obj_ w' B 5 (hpF hp0)) (fun B _ _ h k => ⟨h.1, h.2.ext k⟩) rfl rfl (fun w' hC => stepAt_alloc_Hp hC) (fun B => ?_)
        simp only [List.set_cons_zero, List.set_cons_succ]
        refine Fx.eff0 (HpPre wr B h) (hpPre_stable _ _ _) rfl rfl (fun w' hC => stepAt_mono (stepAt_store_Hp hC.1 hC.2.1 hC.2.2 h rfl rfl) (fun _ w'' h => ⟨h.1, hC.2.1, h.2⟩)) ?_
        refine Fx.done (fun w5 hC => ?_)
        obtain ⟨hC1, hB, hOb⟩ := hC
        have HI5 := Lib.hid (hI.out.ext' hC1)
        have HOb := Lib.hid hOb
        have hb5 : ∀ i u, h.enc[i]? = some u → w5.cell? ⟨B, i, none⟩ = some u := fun i u hu => by
          have h5 : i < 5 := by have := (List.getElem?_eq_some_iff.1 hu).1; simpa [Hp.enc] using this
          rw [hOb.cell i h5]; simp [hpF, hu]
        clear d0 d1 d2 d3 d4 hbl2
        have d0 := hb5 0 _ rfl
        have d1 := hb5 1 _ rfl
        have d2 := hb5 2 _ rfl
        have d3 := hb5 3 _ rfl
        have d4 := hb5 4 _ rfl
        have dl := hOb.lt
        rw [hnd] at d1
        have hBf : ∀ y, (∃ j, j < 16 ∧ (LV j).ownBlock = some y) ∨ (Value.slice iA AC.length icap).ownBlock = some y → y ≠ B := fun y hy => by
          rcases hy with ⟨j, hj, hy⟩ | hy
          · have := (hI.out.own j hj).lt hy; omega
          · have := hI.out.inn.lt hy; omega
        have HBf := Lib.hid hBf
        have hnbB : nb ≠ B := by have := hI.out.obj.lt; omega
        have hwk : IntKind.i64.wrap ((k : Int) + 1) = (k : Int) + 1 := IntWalk.i64_in _ ⟨by omega, by omega⟩
        have t1 : decide ((nd : Int) < 0) = false := by simp
        have t2 : decide (15 < (nd : Int)) = false := by simp; omega
        have t3 : decide ((N : Int) ≤ (nd : Int)) = false := by simp; omega
        have t4 : decide (N ≤ nd) = false := by simp; omega
        clear hb5 hC1 hOb hB hBf hI hnd hsn m5
        go_upto_region 14 with fail
        by_cases hk1 : h.k = 1
        · have hk1' : (h.k == 1) = true := by simp [hk1]
          have hk3' : (h.k != 3) = true := by simp [hk1]
          have HK1 := Lib.hid hk1
          have hlen : AC.length + 1 ≤ 1073741824 := by have := HAl.out; omega
          have HLEN := Lib.hid hlen
          clear hk1 hlen
          go_upto_region 15 with fail
          refine wp_region_line [(0,0),(1,0),(2,1),(3,2),(4,3),(5,0)] (by kernel_rfl) (by kernel_rfl) (Ext w5) (fun _ _ h k => h.trans k) (Ext.refl _) ?_
          iterate 2
            first
              | refine Fx.skip rfl rfl (by simp only [List.set_cons_zero, List.set_cons_succ]; rfl) ?_
              | (with_reducible refine Fx.lab0 ?_
                 first
                   | refine Fx.moveT rfl rfl rfl (by simp only [List.set_cons_zero, List.set_cons_succ]; rfl) ?_
                   | refine Fx.assignT rfl rfl rfl (by simp only [List.set_cons_zero, List.set_cons_succ]; rfl) ?_
                   | refine Fx.pure_ rfl rfl (fun _ => by go_simp; first | done | rfl) (by simp only [List.set_cons_zero, List.set_cons_succ]; rfl) ?_)
              | (with_reducible refine Fx.lab1 ?_
                 refine Fx.look rfl rfl (fun w' hC => by obtain ⟨hc, hf, hl⟩ := Ext.cells hC; go_simp; rfl) (by simp only [List.set_cons_zero, List.set_cons_succ]; rfl) ?_)
          refine Fx.look rfl rfl (op_load_Ms' (o := 2) (m := h.m) dl d2 d3 d4 rfl) (by simp only [List.set_cons_zero, List.set_cons_succ]; rfl) ?_
          refine Fx.mkSl 1 1 (fun B w' => MsL w' (.slice (some ⟨B, 0, none⟩) 1 1) [h.m]) (fun B _ _ h k => h.ext k) rfl rfl (fun w' hC => stepAt_lit1 hC h.m rfl) (fun B2 => ?_)
          simp only [List.set_cons_zero, List.set_cons_succ]
          refine Fx.eff (fun v' w' => OwnMs w' v' (AC ++ [h.m]) ∧ Mods (fun c => (Value.slice iA AC.length icap).ownBlock = some c) w5 w' ∧ (∀ c, v'.ownBlock = some c → (Value.slice iA AC.length icap).ownBlock = some c ∨ w5.heap.size ≤ c)) (fun v _ _ h k => ⟨h.1.ext k, h.2.1.then_ k, h.2.2⟩) rfl rfl
            (fun w' hC => stepAt_append hC.1 (HI5.out.inn.ext hC.1) hC.2 HLEN.out rfl rfl) (fun iv' => ?_)
          simp only [List.set_cons_zero, List.set_cons_succ]
          first
            | refine Fx.skip rfl rfl (by simp only [List.set_cons_zero, List.set_cons_succ]; rfl) ?_
            | (with_reducible refine Fx.lab0 ?_
               first
                 | refine Fx.moveT rfl rfl rfl (by simp only [List.set_cons_zero, List.set_cons_succ]; rfl) ?_
                 | refine Fx.assignT rfl rfl rfl (by simp only [List.set_cons_zero, List.set_cons_succ]; rfl) ?_
                 | refine Fx.pure_ rfl rfl (fun _ => by go_simp; first | done | rfl) (by simp only [List.set_cons_zero, List.set_cons_succ]; rfl) ?_)
            | (with_reducible refine Fx.lab1 ?_
               refine Fx.look rfl rfl (fun w' hC => by obtain ⟨hc, hf, hl⟩ := Ext.cells hC; go_simp; rfl) (by simp only [List.set_cons_zero, List.set_cons_succ]; rfl) ?_)
          refine Fx.done (fun w6 hC => ?_)
          have d0' : w6.cell? ⟨B, 0, none⟩ = some (.int .i64 h.k) := by
            obtain ⟨xc, xf, xl⟩ := hC.2.1.cells
            exact (xc _ _ dl (fun e => HBf.out B (.inr e) rfl)).trans d0
          have hfin := HI5.out.acc hC.1 hC.2.1 hC.2.2 HI5.out.obj.lt
          have hlg : ∀ j, j < 16 → lgs (hapT σ h) j = lgs σ j := fun j _ => by rw [lgs_step Hsig.out.1 Hsq.out HB.out]; simp [HK1.out]
          have HF := Lib.hid (hfin.congr hlg)
          clear hC hfin hlg d0 d1 d2 d3 d4 dl t1 t2 t3 t4
          go_wp2
          go_roundw
          case rel => exact ⟨k + 1, LV, by omega, by go_num, Lib.hid (by rw [Hst.out, Hac.out]; have e : accL AC h = AC ++ [h.m] := by unfold accL; rw [if_pos HK1.out]
                                                                         rw [e]; exact HF.out)⟩
          case measure => simp [intOf]; omega
        · by_cases hk3 : h.k = 3
          · have hk1' : (h.k == 1) = false := by simp [hk1]
            have hk3' : (h.k != 3) = false := by simp [hk3]
            have HK1 := Lib.hid hk1
            have HK3 := Lib.hid hk3
            obtain ⟨hin, hnot⟩ := deliver_ok Hsig.out.1 Hsq.out Hal.out hk3 HB.out
            have Hin := Lib.hid hin
            have Hnot := Lib.hid hnot
            have hacl : AC.length ≤ 100 := by have := HAl.out; omega
            clear hk1 hk3 hin hnot
            go_wp2
            generalize wr = wP at *
            go_loopw [12, 13] (fun q r wx => ∃ (j : Nat) (ok : Bool), q = .bool ok ∧ r = .int .i64 j ∧ j ≤ AC.length ∧ Hid (ok = decide (h.m ∈ AC.take j)) ∧ Hid (Ext w5 wx)) (fun _ r _ => AC.length - (intOf r).toNat)
            case atStart => exact ⟨0, false, rfl, rfl, Nat.zero_le _, Lib.hid (by simp), Lib.hid (Ext.refl _)⟩
            case round =>
              obtain ⟨j, ok, rfl, rfl, hj, hok, hEx⟩ := hrel
              have hwj : IntKind.i64.wrap ((j : Int) + 1) = (j : Int) + 1 := IntWalk.i64_in _ ⟨by omega, by omega⟩
              by_cases hjl : j < AC.length
              · obtain ⟨jb, joff, rfl, hjbl, j0, j1, j2⟩ := Sl.at3 ((HI5.out.inn.ext hEx.out).sl Ms.len) hjl
                obtain ⟨xc, xf, xl⟩ := hEx.out.cells
                have b2 := (xc _ _ dl).trans d2
                have b3 := (xc _ _ dl).trans d3
                have b4 := (xc _ _ dl).trans d4
                have bl := xl _ dl
                have hs := take_snoc' AC j hjl
                have Hs := Lib.hid hs
                clear hs xc xf xl
                generalize AC[j] = x at *
                go_upto_region 21 with fail
                cases ok with
                | true =>
                  refine wp_region_plan [(0,0),(1,0),(2,0),(3,0),(4,0),(5,1),(6,0),(7,1),(8,0),(9,0),(10,0)] (by kernel_rfl) (by kernel_rfl) (by kernel_rfl) (Ext wr) (fun _ _ h k => h.trans k) (Ext.drawn _ _) ?_
                  iterate 11
                    first
                      | refine Fx.skip rfl rfl (by simp only [List.set_cons_zero, List.set_cons_succ]; rfl) ?_
                      | (with_reducible refine Fx.lab0 ?_
                         first
                           | refine Fx.moveT rfl rfl rfl (by simp only [List.set_cons_zero, List.set_cons_succ]; rfl) ?_
                           | refine Fx.assignT rfl rfl rfl (by simp only [List.set_cons_zero, List.set_cons_succ]; rfl) ?_
                           | refine Fx.pure_ rfl rfl (fun _ => by go_simp; first | done | rfl) (by simp only [List.set_cons_zero, List.set_cons_succ]; rfl) ?_)
                      | (with_reducible refine Fx.lab1 ?_
                         refine Fx.look rfl rfl (fun w' hC => by obtain ⟨hc, hf, hl⟩ := Ext.cells hC; go_simp; rfl) (by simp only [List.set_cons_zero, List.set_cons_succ]; rfl) ?_)
                  refine Fx.done (fun w7 hC => ?_)
                  have HE7 := Lib.hid (hEx.out.trans hC)
                  clear hC j0 j1 j2 b2 b3 b4
                  go_wp2
                  go_roundw
                  case rel => exact ⟨j + 1, true, rfl, by go_num, by omega, Lib.hid (by
                    have := hok.out
                    have h2 : h.m ∈ AC.take j := by simpa using this.symm
                    rw [Hs.out]; simp [h2]), HE7⟩
                  case measure => simp [intOf]; omega
                | false =>
                  refine wp_region_plan [(0,0),(1,0),(2,0),(3,0),(4,0),(5,1),(6,0),(7,1),(8,0),(9,0),(10,0)] (by kernel_rfl) (by kernel_rfl) (by kernel_rfl) (Ext wr) (fun _ _ h k => h.trans k) (Ext.drawn _ _) ?_
                  iterate 5
                    first
                      | refine Fx.skip rfl rfl (by simp only [List.set_cons_zero, List.set_cons_succ]; rfl) ?_
                      | (with_reducible refine Fx.lab0 ?_
                         first
                           | refine Fx.moveT rfl rfl rfl (by simp only [List.set_cons_zero, List.set_cons_succ]; rfl) ?_
                           | refine Fx.assignT rfl rfl rfl (by simp only [List.set_cons_zero, List.set_cons_succ]; rfl) ?_
                           | refine Fx.pure_ rfl rfl (fun _ => by go_simp; first | done | rfl) (by simp only [List.set_cons_zero, List.set_cons_succ]; rfl) ?_)
                      | (with_reducible refine Fx.lab1 ?_
                         refine Fx.look rfl rfl (fun w' hC => by obtain ⟨hc, hf, hl⟩ := Ext.cells hC; go_simp; rfl) (by simp only [List.set_cons_zero, List.set_cons_succ]; rfl) ?_)
                  refine Fx.look rfl rfl (op_load_Ms' hjbl j0 j1 j2 rfl) (by simp only [List.set_cons_zero, List.set_cons_succ]; rfl) ?_
                  first
                    | refine Fx.skip rfl rfl (by simp only [List.set_cons_zero, List.set_cons_succ]; rfl) ?_
                    | (with_reducible refine Fx.lab0 ?_
                       first
                         | refine Fx.moveT rfl rfl rfl (by simp only [List.set_cons_zero, List.set_cons_succ]; rfl) ?_
                         | refine Fx.assignT rfl rfl rfl (by simp only [List.set_cons_zero, List.set_cons_succ]; rfl) ?_
                         | refine Fx.pure_ rfl rfl (fun _ => by go_simp; first | done | rfl) (by simp only [List.set_cons_zero, List.set_cons_succ]; rfl) ?_)
                    | (with_reducible refine Fx.lab1 ?_
                       refine Fx.look rfl rfl (fun w' hC => by obtain ⟨hc, hf, hl⟩ := Ext.cells hC; go_simp; rfl) (by simp only [List.set_cons_zero, List.set_cons_succ]; rfl) ?_)
                  refine Fx.look rfl rfl (op_load_Ms' (o := 2) (m := h.m) bl b2 b3 b4 rfl) (by simp only [List.set_cons_zero, List.set_cons_succ]; rfl) ?_
                  refine Fx.pure_ rfl rfl (op_eql_Ms x h.m rfl rfl) (by simp only [List.set_cons_zero, List.set_cons_succ]; rfl) ?_
                  iterate 2
                    first
                      | refine Fx.skip rfl rfl (by simp only [List.set_cons_zero, List.set_cons_succ]; rfl) ?_
                      | (with_reducible refine Fx.lab0 ?_
                         first
                           | refine Fx.moveT rfl rfl rfl (by simp only [List.set_cons_zero, List.set_cons_succ]; rfl) ?_
                           | refine Fx.assignT rfl rfl rfl (by simp only [List.set_cons_zero, List.set_cons_succ]; rfl) ?_
                           | refine Fx.pure_ rfl rfl (fun _ => by go_simp; first | done | rfl) (by simp only [List.set_cons_zero, List.set_cons_succ]; rfl) ?_)
                      | (with_reducible refine Fx.lab1 ?_
                         refine Fx.look rfl rfl (fun w' hC => by obtain ⟨hc, hf, hl⟩ := Ext.cells hC; go_simp; rfl) (by simp only [List.set_cons_zero, List.set_cons_succ]; rfl) ?_)
                  refine Fx.done (fun w7 hC => ?_)
                  have HE7 := Lib.hid (hEx.out.trans hC)
                  obtain ⟨ok2, hok2⟩ : ∃ ok2, decide (x = h.m) = ok2 := ⟨_, rfl⟩
                  have Hok2 := Lib.hid hok2
                  try rw [hok2]
                  clear hC j0 j1 j2 b2 b3 b4 hok2
                  go_wp2
                  go_roundw
                  case rel => exact ⟨j + 1, ok2, rfl, by go_num, by omega, Lib.hid (by
                    have := hok.out
                    have h2 : h.m ∉ AC.take j := by simpa using this.symm
                    rw [Hs.out, ← Hok2.out]; simp [h2, eq_comm]), HE7⟩
                  case measure => simp [intOf]; omega
              · have hjl' : j = AC.length := by omega
                have hokt : ok = true := by
                  rw [hok.out, hjl', List.take_length]; simpa using Hin.out
                subst hokt
                have HEx := hEx
                clear hok hEx hjl'
                obtain ⟨dA, dcap, dv, dc1, dc2⟩ := (HI5.out.own nd hnd16).val
                have hlgl : (lgs σ nd).length ≤ 100 := by
                  have h1 := Hsig.out.2.1
                  simp [st0] at h1
                  unfold lgs; rw [List.length_take]; omega
                obtain ⟨lq, hlq⟩ : ∃ lq, lgs σ nd = lq := ⟨_, rfl⟩
                rw [hlq] at hlgl dv dc1
                have Hlq := Lib.hid hlq
                have Hdv := Lib.hid dv
                have hndI : (nd : Int) < 16 := by omega
                clear dc1 dc2 hlq dv
                go_wp2
                clear hjl hj
                generalize wr = wQ at *
                go_loopw [12, 14] (fun q r wx => ∃ (j : Nat), q = .bool true ∧ r = .int .i64 j ∧ j ≤ lq.length ∧ Hid (Ext w5 wx)) (fun _ r _ => lq.length - (intOf r).toNat)
                case atStart => exact ⟨0, rfl, rfl, Nat.zero_le _, HEx⟩
                case round =>
                  obtain ⟨j, rfl, rfl, hj, hEy⟩ := hrel
                  have hwj : IntKind.i64.wrap ((j : Int) + 1) = (j : Int) + 1 := IntWalk.i64_in _ ⟨by omega, by omega⟩
                  obtain ⟨xc, xf, xl⟩ := hEy.out.cells
                  have b1 := (xc _ _ dl).trans d1
                  have b2 := (xc _ _ dl).trans d2
                  have b3 := (xc _ _ dl).trans d3
                  have b4 := (xc _ _ dl).trans d4
                  have bl := xl _ dl
                  have cn := (HI5.out.obj.ext hEy.out).cell nd hnd16
                  have cnl := (HI5.out.obj.ext hEy.out).lt
                  have cnf := (HI5.out.obj.ext hEy.out).free nd
                  rw [Hdv.out] at cn
                  clear xc xf xl
                  by_cases hjl : j < lq.length
                  · have so := (HI5.out.own nd hnd16).ext hEy.out
                    rw [Hdv.out, Hlq.out] at so
                    obtain ⟨jb, joff, rfl, hjbl, j0, j1, j2⟩ := Sl.at3 (so.sl Ms.len) hjl
                    have hne : ¬ (((lq[j]).f, (lq[j]).c) = (h.m.f, h.m.c)) := fun e => by
                      injection e with e1 e2
                      refine Hnot.out lq[j] ?_ ⟨e1, e2⟩
                      have : lgs σ h.n.toNat = lq := by rw [Hnd.out, Int.toNat_natCast]; exact Hlq.out
                      unfold lgs at this
                      rw [this]; exact List.getElem_mem _
                    have HNE := Lib.hid hne
                    clear so hne
                    generalize lq[j] = x at *
                    go_upto_region 25 with fail
                    refine wp_region_plan [(0,0),(1,0),(2,0),(3,1),(4,0),(5,1),(6,0),(7,0),(8,0),(9,1),(10,0),(11,0),(12,1),(13,0),(14,0),(15,0)] (by kernel_rfl) (by kernel_rfl) (by kernel_rfl) (Ext wr) (fun _ _ h k => h.trans k) (Ext.drawn _ _) ?_
                    iterate 9
                      first
                        | refine Fx.skip rfl rfl (by simp only [List.set_cons_zero, List.set_cons_succ]; rfl) ?_
                        | (with_reducible refine Fx.lab0 ?_
                           first
                             | refine Fx.moveT rfl rfl rfl (by simp only [List.set_cons_zero, List.set_cons_succ]; rfl) ?_
                             | refine Fx.assignT rfl rfl rfl (by simp only [List.set_cons_zero, List.set_cons_succ]; rfl) ?_
                             | refine Fx.pure_ rfl rfl (fun _ => by go_simp; first | done | rfl) (by simp only [List.set_cons_zero, List.set_cons_succ]; rfl) ?_)
                        | (with_reducible refine Fx.lab1 ?_
                           refine Fx.look rfl rfl (fun w' hC => by obtain ⟨hc, hf, hl⟩ := Ext.cells hC; go_simp; rfl) (by simp only [List.set_cons_zero, List.set_cons_succ]; rfl) ?_)
                    refine Fx.look rfl rfl (op_load_Id' hjbl j0 j1 rfl) (by simp only [List.set_cons_zero, List.set_cons_succ]; rfl) ?_
                    iterate 2
                      first
                        | refine Fx.skip rfl rfl (by simp only [List.set_cons_zero, List.set_cons_succ]; rfl) ?_
                        | (with_reducible refine Fx.lab0 ?_
                           first
                             | refine Fx.moveT rfl rfl rfl (by simp only [List.set_cons_zero, List.set_cons_succ]; rfl) ?_
                             | refine Fx.assignT rfl rfl rfl (by simp only [List.set_cons_zero, List.set_cons_succ]; rfl) ?_
                             | refine Fx.pure_ rfl rfl (fun _ => by go_simp; first | done | rfl) (by simp only [List.set_cons_zero, List.set_cons_succ]; rfl) ?_)
                        | (with_reducible refine Fx.lab1 ?_
                           refine Fx.look rfl rfl (fun w' hC => by obtain ⟨hc, hf, hl⟩ := Ext.cells hC; go_simp; rfl) (by simp only [List.set_cons_zero, List.set_cons_succ]; rfl) ?_)
                    refine Fx.look rfl rfl (op_load_Id' (o := 2) bl b2 b3 rfl) (by simp only [List.set_cons_zero, List.set_cons_succ]; rfl) ?_
                    refine Fx.pure_ (v := .bool true) rfl rfl (fun w => by rw [op_neq_Id (x.f, x.c) (h.m.f, h.m.c) rfl rfl, decide_eq_false HNE.out]; rfl) (by simp only [List.set_cons_zero, List.set_cons_succ]; rfl) ?_
                    iterate 2
                      first
                        | refine Fx.skip rfl rfl (by simp only [List.set_cons_zero, List.set_cons_succ]; rfl) ?_
                        | (with_reducible refine Fx.lab0 ?_
                           first
                             | refine Fx.moveT rfl rfl rfl (by simp only [List.set_cons_zero, List.set_cons_succ]; rfl) ?_
                             | refine Fx.assignT rfl rfl rfl (by simp only [List.set_cons_zero, List.set_cons_succ]; rfl) ?_
                             | refine Fx.pure_ rfl rfl (fun _ => by go_simp; first | done | rfl) (by simp only [List.set_cons_zero, List.set_cons_succ]; rfl) ?_)
                        | (with_reducible refine Fx.lab1 ?_
                           refine Fx.look rfl rfl (fun w' hC => by obtain ⟨hc, hf, hl⟩ := Ext.cells hC; go_simp; rfl) (by simp only [List.set_cons_zero, List.set_cons_succ]; rfl) ?_)
                    refine Fx.done (fun w7 hC => ?_)
                    have HE7 := Lib.hid (hEy.out.trans hC)
                    clear hC j0 j1 j2 b1 b2 b3 b4 cn
                    go_wp2
                    go_roundw
                    case rel => exact ⟨j + 1, rfl, by go_num, by omega, HE7⟩
                    case measure => simp [intOf]; omega
                  · have hBn : ¬ ((LV nd).ownBlock = some B ∨ B = nb) := fun e => by
                      rcases e with e | e
                      · exact HBf.out B (.inl ⟨nd, hnd16, e⟩) rfl
                      · exact hnbB e.symm
                    have hnn : ¬ (LV nd).ownBlock = some nb := fun e => (HI5.out.fl nd hnd16 nb e).2 rfl
                    have HI6 := Lib.hid (HI5.out.ext' hEy.out)
                    have hlen : lq.length + 1 ≤ 1073741824 := by omega
                    have HLEN := Lib.hid hlen
                    clear hlen
                    go_upto_region 28 with fail
                    refine wp_region_planC [(0,0),(1,3),(2,0),(3,1),(4,0),(5,1),(6,0),(7,1),(8,2),(9,4),(10,0),(11,4)] (by kernel_rfl) (by kernel_rfl) (by kernel_rfl) (G := fun w' => Mods (fun c => (LV nd).ownBlock = some c ∨ c = nb) wr w') (Ext wr) (fun w' h => h.mods _) (Ext.drawn _ _) ?_
                    first
                      | refine Gx.skip rfl rfl (by simp only [List.set_cons_zero, List.set_cons_succ]; rfl) ?_
                      | (with_reducible refine Gx.lab0 ?_
                         first
                           | refine Gx.moveT rfl rfl rfl (by simp only [List.set_cons_zero, List.set_cons_succ]; rfl) ?_
                           | refine Gx.assignT rfl rfl rfl (by simp only [List.set_cons_zero, List.set_cons_succ]; rfl) ?_
                           | refine Gx.pure_ rfl rfl (fun _ => by go_simp; first | done | rfl) (by simp only [List.set_cons_zero, List.set_cons_succ]; rfl) ?_)
                    refine Gx.lookG rfl rfl (fun w' hC => by obtain ⟨hc, hf, hl⟩ := hC.cells; have e1 := (hc B 1 bl hBn).trans b1; clear hc hf hl; go_simp; rfl) (by simp only [List.set_cons_zero, List.set_cons_succ]; rfl) ?_
                    first
                      | refine Gx.skip rfl rfl (by simp only [List.set_cons_zero, List.set_cons_succ]; rfl) ?_
                      | (with_reducible refine Gx.lab0 ?_
                         first
                           | refine Gx.moveT rfl rfl rfl (by simp only [List.set_cons_zero, List.set_cons_succ]; rfl) ?_
                           | refine Gx.assignT rfl rfl rfl (by simp only [List.set_cons_zero, List.set_cons_succ]; rfl) ?_
                           | refine Gx.pure_ rfl rfl (fun _ => by go_simp; first | done | rfl) (by simp only [List.set_cons_zero, List.set_cons_succ]; rfl) ?_)
                    refine Gx.look rfl rfl (fun w' hC => by obtain ⟨hc, hf, hl⟩ := hC.cells; have e1 := (hc B 1 bl).trans b1; clear hc hf hl; go_simp; rfl) (by simp only [List.set_cons_zero, List.set_cons_succ]; rfl) ?_
                    first
                      | refine Gx.skip rfl rfl (by simp only [List.set_cons_zero, List.set_cons_succ]; rfl) ?_
                      | (with_reducible refine Gx.lab0 ?_
                         first
                           | refine Gx.moveT rfl rfl rfl (by simp only [List.set_cons_zero, List.set_cons_succ]; rfl) ?_
                           | refine Gx.assignT rfl rfl rfl (by simp only [List.set_cons_zero, List.set_cons_succ]; rfl) ?_
                           | refine Gx.pure_ rfl rfl (fun _ => by go_simp; first | done | rfl) (by simp only [List.set_cons_zero, List.set_cons_succ]; rfl) ?_)
                    refine Gx.look rfl rfl (fun w' hC => by obtain ⟨hc, hf, hl⟩ := hC.cells; have e1 := (hc nb nd cnl).trans cn; clear hc hf hl; go_simp; rfl) (by simp only [List.set_cons_zero, List.set_cons_succ]; rfl) ?_
                    first
                      | refine Gx.skip rfl rfl (by simp only [List.set_cons_zero, List.set_cons_succ]; rfl) ?_
                      | (with_reducible refine Gx.lab0 ?_
                         first
                           | refine Gx.moveT rfl rfl rfl (by simp only [List.set_cons_zero, List.set_cons_succ]; rfl) ?_
                           | refine Gx.assignT rfl rfl rfl (by simp only [List.set_cons_zero, List.set_cons_succ]; rfl) ?_
                           | refine Gx.pure_ rfl rfl (fun _ => by go_simp; first | done | rfl) (by simp only [List.set_cons_zero, List.set_cons_succ]; rfl) ?_)
                    refine Gx.look rfl rfl (op_load_Ms' (o := 2) (m := h.m) bl b2 b3 b4 rfl) (by simp only [List.set_cons_zero, List.set_cons_succ]; rfl) ?_
                    refine Gx.keep (fun v w' => MsL w' v [h.m]) rfl rfl (fun w' hC => stepAt_mono (stepAt_lit1 hC h.m rfl) (fun u w'' hh => by
                      obtain ⟨B2, rfl, h1, h2⟩ := hh
                      exact ⟨hC.trans h1, h2⟩)) (fun xv => ?_)
                    simp only [List.set_cons_zero, List.set_cons_succ]
                    refine Gx.eff (fun v' w' => OwnMs w' v' (lq ++ [h.m]) ∧ Mods (fun c => (LV nd).ownBlock = some c) wr w' ∧ (∀ c, v'.ownBlock = some c → (LV nd).ownBlock = some c ∨ wr.heap.size ≤ c)) (fun v w' h => h.2.1.mono (fun _ _ h => .inl h)) rfl rfl
                      (fun w' hC => by
                        have so := (HI6.out.own nd hnd16).ext hC.1
                        rw [Hlq.out] at so
                        exact stepAt_append hC.1 so hC.2 HLEN.out (by rw [Hdv.out]; rfl) rfl) (fun v' => ?_)
                    simp only [List.set_cons_zero, List.set_cons_succ]
                    first
                      | refine Gx.skip rfl rfl (by simp only [List.set_cons_zero, List.set_cons_succ]; rfl) ?_
                      | (with_reducible refine Gx.lab0 ?_
                         first
                           | refine Gx.moveT rfl rfl rfl (by simp only [List.set_cons_zero, List.set_cons_succ]; rfl) ?_
                           | refine Gx.assignT rfl rfl rfl (by simp only [List.set_cons_zero, List.set_cons_succ]; rfl) ?_
                           | refine Gx.pure_ rfl rfl (fun _ => by go_simp; first | done | rfl) (by simp only [List.set_cons_zero, List.set_cons_succ]; rfl) ?_)
                    refine Gx.store ⟨nb, nd, none⟩ v' (fun w' h => (h.2.1.mono (T := fun c => (LV nd).ownBlock = some c ∨ c = nb) (fun _ _ h => .inl h)).trans (Mods.setCell w' nb nd v') (fun _ _ h => .inr h)) rfl rfl (fun w' hC => by
                      obtain ⟨hc, hf, hl⟩ := hC.2.1.cells
                      have e1 := (hc nb nd cnl hnn).trans cn
                      have e2 := (hf nb nd cnl hnn).trans cnf
                      obtain ⟨A, n, vv⟩ : ∃ A n cap, v' = .slice A n cap := by obtain ⟨A, cap, e, _⟩ := hC.1.val; exact ⟨_, _, _, e⟩
                      obtain ⟨cap, rfl⟩ := vv
                      clear hc hf hl hC
                      go_simp) ?_
                    refine Gx.done (fun w9 hC => ?_)
                    obtain ⟨w8, ⟨h5, h5', h5''⟩, h6⟩ := hC
                    have hfin := HI6.out.del hnd16 h5 h5' h5'' Hnb.out h6
                    have hlg : ∀ j, j < 16 → lgs (hapT σ h) j = (if j = nd then lq ++ [h.m] else lgs σ j) := fun j _ => by
                      rw [lgs_step Hsig.out.1 Hsq.out HB.out, Hnd.out, Int.toNat_natCast]
                      by_cases e : j = nd
                      · subst e; rw [if_pos rfl, if_pos ⟨HK3.out, rfl⟩, Hlq.out]
                      · rw [if_neg e, if_neg (fun h => e h.2)]; simp
                    have HF := Lib.hid (hfin.congr hlg)
                    clear h5 h5' h5'' h6 hfin hlg b1 b2 b3 b4 cn
                    go_wp2
                    go_roundw
                    case rel => exact ⟨k + 1, _, by omega, by go_num, Lib.hid (by rw [Hst.out, Hac.out]; have e : accL AC h = AC := by unfold accL; rw [if_neg HK1.out]
                                                                                  rw [e]; exact HF.out)⟩
                    case measure => simp [intOf]; omega
          · have hk1' : (h.k == 1) = false := by simp [hk1]
            have hk3' : (h.k != 3) = true := by simp [hk3]
            have HK1 := Lib.hid hk1
            have HK3 := Lib.hid hk3
            have hlg : ∀ j, j < 16 → lgs (hapT σ h) j = lgs σ j := fun j _ => by rw [lgs_step Hsig.out.1 Hsq.out HB.out]; simp [HK3.out]
            have HF := Lib.hid (HI5.out.congr hlg)
            clear hk1 hk3 hlg
            go_wp2
            go_roundw
            case rel => exact ⟨k + 1, LV, by omega, by go_num, Lib.hid (by rw [Hst.out, Hac.out]; have e : accL AC h = AC := by unfold accL; rw [if_neg HK1.out]
                                                                           rw [e]; exact HF.out)⟩
            case measure => simp [intOf]; omega
      · obtain ⟨iA, icap, rfl, -⟩ := hI.out.inn.val
        have hsig := stN_ok (st0_ok (n := N) (by omega) (by omega)) L k
        obtain ⟨σ, hσ⟩ : ∃ σ, stN (st0 N) L k = σ := ⟨_, rfl⟩
        rw [hσ] at hI hsig
        have Hsig := Lib.hid hsig
        have hlog : σ.log.length ≤ 100 := by have := hsig.2.1; simp [st0] at this; omega
        clear hσ hsig
        go_wp2
        generalize wr = wA at *
        go_loopw [15] (fun q wo => ∃ (a : Nat), a ≤ 16 ∧ q = .int .i64 a ∧ Hid (Ext wA wo)) (fun q _ => 16 - (intOf q).toNat)
        case atStart => exact ⟨0, by omega, rfl, Lib.hid (Ext.refl _)⟩
        case round =>
          obtain ⟨a, ha, rfl, hEo⟩ := hrel
          by_cases ha16 : a < 16
          · have hwa : IntKind.i64.wrap ((a : Int) + 1) = (a : Int) + 1 := IntWalk.i64_in _ ⟨by omega, by omega⟩
            go_wp2
            generalize wr = wB at *
            go_loopw [16] (fun q wi => ∃ (b : Nat), b ≤ a ∧ q = .int .i64 b ∧ Hid (Ext wA wi)) (fun q _ => 16 - (intOf q).toNat)
            case atStart => exact ⟨0, by omega, rfl, hEo⟩
            case round =>
              obtain ⟨b, hb, rfl, hEi⟩ := hrel
              by_cases hba : b < a
              · have hwb : IntKind.i64.wrap ((b : Int) + 1) = (b : Int) + 1 := IntWalk.i64_in _ ⟨by omega, by omega⟩
                have hI2 := hI.out.ext' hEi.out
                have ca := hI2.obj.cell a (by omega)
                have cb := hI2.obj.cell b (by omega)
                have lnb := hI2.obj.lt
                have sa := (hI2.own a (by omega)).sl Ms.len
                have sb := (hI2.own b (by omega)).sl Ms.len
                obtain ⟨aA, acap, ea, ea1, ea2⟩ := sa.val
                obtain ⟨bA, bcap, eb, eb1, eb2⟩ := sb.val
                rw [ea] at ca sa
                rw [eb] at cb sb
                have haI : (a : Int) < 16 := by omega
                have hbI : (b : Int) < 16 := by omega
                have la : (lgs σ a).length ≤ 100 := by unfold lgs; rw [List.length_take]; omega
                have lb : (lgs σ b).length ≤ 100 := by unfold lgs; rw [List.length_take]; omega
                have Ea := Lib.hid sa
                have Eb := Lib.hid sb
                obtain ⟨na, hna⟩ : ∃ na, (lgs σ a).length = na := ⟨_, rfl⟩
                obtain ⟨nB, hnB⟩ : ∃ nB, (lgs σ b).length = nB := ⟨_, rfl⟩
                rw [hna] at ca ea1 la
                rw [hnB] at cb eb1 lb
                have Hna := Lib.hid hna
                have HnB := Lib.hid hnB
                clear hI2 sa sb ea eb ea2 eb2 hna hnB
                go_upto_region 35 with fail
                refine wp_region_plan [(0,0),(1,0),(2,1),(3,0),(4,0),(5,0),(6,1),(7,0),(8,0),(9,0)] (by kernel_rfl) (by kernel_rfl) (by kernel_rfl) (Ext wr) (fun _ _ h k => h.trans k) (Ext.drawn _ _) ?_
                obtain ⟨mn, hmn⟩ : ∃ mn, min na nB = mn := ⟨_, rfl⟩
                have hmi : min (na : Int) (nB : Int) = (mn : Int) := by omega
                have hma : mn ≤ acap := by omega
                have hmb : mn ≤ bcap := by omega
                have hmaI : (mn : Int) ≤ acap := by omega
                have hmbI : (mn : Int) ≤ bcap := by omega
                have Hmn := Lib.hid hmn
                clear hmn
                iterate 10
                  first
                    | refine Fx.skip rfl rfl (by simp only [List.set_cons_zero, List.set_cons_succ]; rfl) ?_
                    | (with_reducible refine Fx.lab0 ?_
                       first
                         | refine Fx.moveT rfl rfl rfl (by simp only [List.set_cons_zero, List.set_cons_succ]; rfl) ?_
                         | refine Fx.assignT rfl rfl rfl (by simp only [List.set_cons_zero, List.set_cons_succ]; rfl) ?_
                         | refine Fx.pure_ rfl rfl (fun _ => by go_simp; first | done | rfl) (by simp only [List.set_cons_zero, List.set_cons_succ]; rfl) ?_)
                    | (with_reducible refine Fx.lab1 ?_
                       refine Fx.look rfl rfl (fun w' hC => by obtain ⟨hc, hf, hl⟩ := Ext.cells hC; go_simp; rfl) (by simp only [List.set_cons_zero, List.set_cons_succ]; rfl) ?_)
                refine Fx.done (fun w9 hC => ?_)
                obtain ⟨xc, xf, xl⟩ := hC.cells
                replace ca := (xc _ _ lnb).trans ca
                replace cb := (xc _ _ lnb).trans cb
                replace lnb := xl _ lnb
                have HE9 := Lib.hid (hEi.out.trans hC)
                have Sa := Lib.hid ((Ea.out.ext hC).take (m := mn) (by rw [Hna.out]; have := Hmn.out; omega))
                have Sb := Lib.hid ((Eb.out.ext hC).take (m := mn) (by rw [HnB.out]; have := Hmn.out; omega))
                have same : sameB ((lgs σ a).take mn) ((lgs σ b).take mn) = true := by
                  have q1 := Hna.out
                  have q2 := HnB.out
                  have q3 := Hmn.out
                  unfold lgs at q1 q2 ⊢
                  rw [List.length_take] at q1 q2
                  unfold sameB
                  rw [List.take_take, List.take_take, Nat.min_eq_left (show mn ≤ σ.del a by omega), Nat.min_eq_left (show mn ≤ σ.del b by omega)]
                  simp
                have SM := Lib.hid same
                have hl1 : ((lgs σ a).take mn).length ≤ 1073741824 := by rw [List.length_take]; omega
                have HL1 := Lib.hid hl1
                clear xc xf xl hC same hl1
                go_upto_region 36 with fail
                refine wp_region_plan [(0,0),(1,0),(2,1),(3,0),(4,0),(5,0),(6,0),(7,1),(8,0),(9,0),(10,1),(11,0)] (by kernel_rfl) (by kernel_rfl) (by kernel_rfl) (Ext w9) (fun _ _ h k => h.trans k) (Ext.drawn _ _) ?_
                iterate 10
                  first
                    | refine Fx.skip rfl rfl (by simp only [List.set_cons_zero, List.set_cons_succ]; rfl) ?_
                    | (with_reducible refine Fx.lab0 ?_
                       first
                         | refine Fx.moveT rfl rfl rfl (by simp only [List.set_cons_zero, List.set_cons_succ]; rfl) ?_
                         | refine Fx.assignT rfl rfl rfl (by simp only [List.set_cons_zero, List.set_cons_succ]; rfl) ?_
                         | refine Fx.pure_ rfl rfl (fun _ => by go_simp; first | done | rfl) (by simp only [List.set_cons_zero, List.set_cons_succ]; rfl) ?_)
                    | (with_reducible refine Fx.lab1 ?_
                       refine Fx.look rfl rfl (fun w' hC => by obtain ⟨hc, hf, hl⟩ := Ext.cells hC; go_simp; rfl) (by simp only [List.set_cons_zero, List.set_cons_succ]; rfl) ?_)
                refine Fx.call1 (v := .bool true) (args := #[.slice aA mn acap, .slice bA mn bcap]) rfl rfl (fun _ => by first | (go_simp; done) | (go_simp; rfl)) (fun w' hC => (same_ref _ _ _ _ w' (Sa.out.ext hC) (Sb.out.ext hC) HL1.out).mono (fun e w'' hh => by rw [SM.out] at hh; exact hh)) (by simp only [List.set_cons_zero, List.set_cons_succ]; rfl) ?_
                first
                  | refine Fx.skip rfl rfl (by simp only [List.set_cons_zero, List.set_cons_succ]; rfl) ?_
                  | (with_reducible refine Fx.lab0 ?_
                     first
                       | refine Fx.moveT rfl rfl rfl (by simp only [List.set_cons_zero, List.set_cons_succ]; rfl) ?_
                       | refine Fx.assignT rfl rfl rfl (by simp only [List.set_cons_zero, List.set_cons_succ]; rfl) ?_
                       | refine Fx.pure_ rfl rfl (fun _ => by go_simp; first | done | rfl) (by simp only [List.set_cons_zero, List.set_cons_succ]; rfl) ?_)
                  | (with_reducible refine Fx.lab1 ?_
                     refine Fx.look rfl rfl (fun w' hC => by obtain ⟨hc, hf, hl⟩ := Ext.cells hC; go_simp; rfl) (by simp only [List.set_cons_zero, List.set_cons_succ]; rfl) ?_)
                refine Fx.done (fun w10 hC => ?_)
                have HE10 := Lib.hid (HE9.out.trans hC)
                clear hC ca cb
                go_wp2
                go_roundw
                case rel => exact ⟨b + 1, by omega, by go_num, HE10⟩
                case measure => simp [intOf]; omega
              · go_wp2
                go_roundw
                case rel => exact ⟨a + 1, by omega, by go_num, hEi⟩
                case measure => simp [intOf]; omega
          · go_wp2
            go_ret
            exact ⟨rfl, HE2.out.trans (hI.out.ext.trans hEo.out)⟩
  · have Hn := Lib.hid hn
    clear hn
    go_wp2_with (go_at_call 11; refine (check_no _ n Hn.out _ _ _).mono ?_; rintro e w3 ⟨rfl, hE3⟩; have H3 := Lib.hid hE3; clear hE3)
    go_ret
    exact ⟨rfl, HE2.out.trans H3.out⟩
end Go.Proofs.Ytfnchpjiebojiaa
