/-
  rostrumlaw10.IdsOrders: what it computes.
-/
import Derived.Test.YtbjondnombnpbaaOnce
namespace Go.Proofs.Ytbjondnombnpbaa
open Go.RowKit Go.Sort
attribute [local go_sem] Oper.semAt_some

theorem guard_Id (op : BinOp) (x y : Operand) (a b : Int × Int) (w : World) : (eqGuard op 32 x y (idV a) (idV b)).run Try.prog w = .ok () w :=
  run_eqGuard_agg w op _ x y _ _ (by kernel_rfl)
theorem run_eql_Id (a b : Int × Int) (w : World) : (binOp .eql 32 (idV a) (idV b)).run Try.prog w = .ok (.bool (decide (a = b))) w := by
  have := run_equalIn_Id 9998 a.1 a.2 b.1 b.2 w
  unfold idV
  rw [run_eql_struct, this]
  obtain ⟨a1, a2⟩ := a
  obtain ⟨b1, b2⟩ := b
  by_cases h1 : a1 = b1 <;> by_cases h2 : a2 = b2 <;> simp [h1, h2, Result.andThen]
theorem op_eql_Id {ρ : Operand → Value} {d : Option Tmp} {x y : Operand} {u t : TypeId} {s : String} {af : Array Edge} {g : Option (Nat × Bool)} (a b : Int × Int) (hx : ρ x = idV a) (hy : ρ y = idV b) (w : World) :
    (execOp ρ ⟨d, .binOp .eql 32 x y u, t, s, af, g⟩).run Try.prog w = .ok (.value (.bool (decide (a = b)))) w := by
  simp only [execOp, hx, hy, Sem.run_bind, guard_Id, run_eql_Id, Result.andThen_ok]; rfl

/-- Two books of the call's own, that share no block. -/
structure BookII (w2 : World) (b mb : Nat) (lv : Value) (σ : BSt) (c mc : Nat) (lw : Value) (τ : BSt) (w : World) : Prop where
  x : BookI w2 b mb lv σ w
  y : BookI w2 c mc lw τ w
  d : ∀ z, FB b mb lv z → ¬ FB c mc lw z
theorem BookII.ext' {w2 w w' : World} {b mb : Nat} {lv : Value} {σ : BSt} {c mc : Nat} {lw : Value} {τ : BSt} (h : BookII w2 b mb lv σ c mc lw τ w) (he : Ext w w') : BookII w2 b mb lv σ c mc lw τ w' := ⟨h.x.ext' he, h.y.ext' he, h.d⟩
theorem BookII.takeX {w2 w w' : World} {b mb : Nat} {lv lv' : Value} {σ σ' : BSt} {c mc : Nat} {lw : Value} {τ : BSt} (h : BookII w2 b mb lv σ c mc lw τ w) (hb : BookAt w' b mb lv' σ') (hm : Mods (FB b mb lv) w w') (hl : ∀ y, lv'.ownBlock = some y → lv.ownBlock = some y ∨ w.heap.size ≤ y) : BookII w2 b mb lv' σ' c mc lw τ w' := by
  have hX := h.x.take hb hm hl
  refine ⟨hX, ⟨h.y.bk.mods hm (fun z hz hz2 => h.d z hz2 hz), h.y.fr, hX.ext⟩, fun z hz hz2 => ?_⟩
  rcases hz with hz | hz | hz
  · exact h.d z (.inl hz) hz2
  · exact h.d z (.inr (.inl hz)) hz2
  · rcases hl z hz with h' | h'
    · exact h.d z (.inr (.inr h')) hz2
    · have := h.y.bk.lt hz2; omega
theorem BookII.takeY {w2 w w' : World} {b mb : Nat} {lv : Value} {σ : BSt} {c mc : Nat} {lw lw' : Value} {τ τ' : BSt} (h : BookII w2 b mb lv σ c mc lw τ w) (hb : BookAt w' c mc lw' τ') (hm : Mods (FB c mc lw) w w') (hl : ∀ y, lw'.ownBlock = some y → lw.ownBlock = some y ∨ w.heap.size ≤ y) : BookII w2 b mb lv σ c mc lw' τ' w' := by
  have hY := h.y.take hb hm hl
  refine ⟨⟨h.x.bk.mods hm (fun z hz hz2 => h.d z hz hz2), h.x.fr, hY.ext⟩, hY, fun z hz hz2 => ?_⟩
  rcases hz2 with hz2 | hz2 | hz2
  · exact h.d z hz (.inl hz2)
  · exact h.d z hz (.inr (.inl hz2))
  · rcases hl z hz2 with h' | h'
    · exact h.d z hz (.inr (.inr h'))
    · have := h.x.bk.lt hz; omega
section
variable {a : Act} {d : Option Tmp} {p : Op} {t : TypeId} {s : String} {af : Array Edge} {g : Option (Nat × Bool)} {w2 wr w : World} {b mb : Nat} {lv : Value} {σ : BSt} {c mc : Nat} {lw : Value} {τ : BSt}
theorem stepAt_takeX (hI : BookII w2 b mb lv σ c mc lw τ wr) (hO : σ.Ok) (hlen : σ.log.length + σ.wt.length ≤ 1000000) (m : Ms) (hC : Ext wr w)
    (hr : (execOp a.eval ⟨d, p, t, s, af, g⟩).run Try.prog w = .ok (.enter 13 #[.pointer (some ⟨b, 0, none⟩), m.val]) w) :
    stepAt Try.prog ⟨d, p, t, s, af, g⟩ a w (fun _ w' => ∃ lv', BookII w2 b mb lv' (takeS σ m) c mc lw τ w') := by
  unfold stepAt
  rw [hr]
  exact (take_at (hI.x.bk.ext hC) hO hlen m).mono (fun e w3 hh => by
    obtain ⟨nv, lv', h1, h2, h3, h4, h5, h6⟩ := hh
    exact ⟨_, h1, lv', (hI.ext' hC).takeX h2 h4 h5⟩)
theorem stepAt_takeY (hI : BookII w2 b mb lv σ c mc lw τ wr) (hO : τ.Ok) (hlen : τ.log.length + τ.wt.length ≤ 1000000) (m : Ms) (hC : Ext wr w)
    (hr : (execOp a.eval ⟨d, p, t, s, af, g⟩).run Try.prog w = .ok (.enter 13 #[.pointer (some ⟨c, 0, none⟩), m.val]) w) :
    stepAt Try.prog ⟨d, p, t, s, af, g⟩ a w (fun _ w' => ∃ lw', BookII w2 b mb lv σ c mc lw' (takeS τ m) w') := by
  unfold stepAt
  rw [hr]
  exact (take_at (hI.y.bk.ext hC) hO hlen m).mono (fun e w3 hh => by
    obtain ⟨nv, lv', h1, h2, h3, h4, h5, h6⟩ := hh
    exact ⟨_, h1, lv', (hI.ext' hC).takeY h2 h4 h5⟩)
end
/-- No two of the first i have the same id. -/
def Apart (L : List Ms) (i : Nat) : Prop := ∀ p q (hp : p < L.length) (hq : q < p), p < i → keyM L[p] ≠ keyM (L[q]'(by omega))
theorem apart_nodup {L : List Ms} (h : Apart L L.length) : (L.map keyM).Nodup := by
  rw [List.nodup_iff_pairwise_ne, List.pairwise_iff_getElem]
  intro i j hi hj hij
  simp only [List.length_map] at hi hj
  have := h j i hj hij hj
  simp only [List.getElem_map]
  exact fun e => this e.symm

def WtR (kv : List ((Int × Int) × Ms)) (wl : Nat) (x : Option Addr × Nat) (w' : World) : Prop := ∃ S, MsL w' (.slice x.1 wl x.2) S ∧ S.Perm (kv.map (·.2)) ∧ S.Pairwise (fun x y => ltOf cmpM y x = false)
theorem wtR_stable (kv : List ((Int × Int) × Ms)) (wl : Nat) (x : Option Addr × Nat) : StableF (WtR kv wl x) := fun _ _ h k => let ⟨S, h1, h2⟩ := h; ⟨S, h1.ext k, h2⟩
set_option maxRecDepth 100000 in
set_option maxHeartbeats 6400000 in
theorem orders_law (w : World) (v : Value) (l : List Ms) (turn : Int) (bk : Bool) (hl : MsL w v l) :
    Calls Try.prog 9 #[v, .int .i64 turn, .bool bk] w (LawP w) := by
  have HL := Lib.hid hl
  obtain ⟨A, cap, rfl, hcap, hmax⟩ := hl.val
  clear hl hcap hmax
  go_enter Try.func9, Try.ntmps9
  go_upto_region 2 with (go_at_call 10; refine (shown_at _).mono ?_; rintro e w1 ⟨rfl, hE1⟩; have H1 := Lib.hid hE1; clear hE1)
  go_upto_region 3 with (go_at_call 11; refine (cut_at _ _ l (HL.out.ext H1.out)).mono ?_; rintro e w2 ⟨fv, rfl, hown, hE2, hblk⟩; obtain ⟨fA, fcap, rfl, hfc⟩ := hown.val; have HF := Lib.hid hown; have H2 := Lib.hid hE2; clear hown hE2 hblk hfc)
  have hL80 : (cutL l).length ≤ 80 := cutL_len l
  have HL2 := Lib.hid (HF.out.sl Ms.len)
  have HE2 := Lib.hid (H1.out.trans H2.out)
  clear HF HL H1 H2
  generalize cutL l = L at *
  go_wp2
  go_loopw [8] (fun q wr => ∃ (i : Nat), i ≤ L.length ∧ q = .int .i64 i ∧ Hid (Apart L i) ∧ Hid (Ext w2 wr)) (fun q _ => L.length - (intOf q).toNat)
  case atStart => exact ⟨0, Nat.zero_le _, rfl, Lib.hid (fun p q hp hq h => by omega), Lib.hid (Ext.refl _)⟩
  case round =>
    obtain ⟨i, hi, rfl, hAp, hE⟩ := hrel
    have hwi : IntKind.i64.wrap ((i : Int) + 1) = (i : Int) + 1 := IntWalk.i64_in _ ⟨by omega, by omega⟩
    by_cases hlt : i < L.length
    · go_wp2
      generalize wr = wA at *
      go_loopw [9] (fun q wx => ∃ (k : Nat), k ≤ i ∧ q = .int .i64 k ∧ Hid (∀ j (hj : j < L.length), j < k → keyM L[i] ≠ keyM L[j]) ∧ Hid (Ext w2 wx)) (fun q _ => i - (intOf q).toNat)
      case atStart => exact ⟨0, Nat.zero_le _, rfl, Lib.hid (fun j hj h => by omega), hE⟩
      case round =>
        clear hE
        obtain ⟨k, hk, rfl, hNo, hE⟩ := hrel
        have hwk : IntKind.i64.wrap ((k : Int) + 1) = (k : Int) + 1 := IntWalk.i64_in _ ⟨by omega, by omega⟩
        by_cases hki : k < i
        · have hkl : k < L.length := by omega
          obtain ⟨ib, ioff, rfl, hib, i0, i1, i2⟩ := Sl.at3 (HL2.out.ext hE.out) hlt
          obtain ⟨jb, joff, he, hjb, j0, j1, j2⟩ := Sl.at3 (HL2.out.ext hE.out) hkl
          injection he with he
          injection he with he1 he2
          subst he1; subst he2
          obtain ⟨r, hr⟩ : ∃ r, decide (keyM L[i] = keyM L[k]) = r := ⟨_, rfl⟩
          have Hr := Lib.hid hr
          obtain ⟨m, hm⟩ : ∃ m, L[i] = m := ⟨_, rfl⟩
          obtain ⟨n, hn⟩ : ∃ n, L[k] = n := ⟨_, rfl⟩
          have hNo' := hNo.out
          have Hm := Lib.hid hm
          have Hn := Lib.hid hn
          rw [hm] at i0 i1 hr
          rw [hn] at j0 j1 hr
          have Hr2 := Lib.hid hr
          clear hr hm hn hNo' i2 j2 hjb
          go_upto_region 9 with fail
          refine wp_region_plan [(0,0),(1,0),(2,0),(3,0),(4,1),(5,0),(6,0),(7,0),(8,0),(9,1),(10,0)] (by kernel_rfl) (by kernel_rfl) (by kernel_rfl) (Ext wr) (fun _ _ h k => h.trans k) (Ext.drawn _ _) ?_
          iterate 4
            first
              | refine Fx.skip rfl rfl (by simp only [List.set_cons_zero, List.set_cons_succ]; rfl) ?_
              | (with_reducible refine Fx.lab0 ?_
                 first
                   | refine Fx.moveT rfl rfl rfl (by simp only [List.set_cons_zero, List.set_cons_succ]; rfl) ?_
                   | refine Fx.assignT rfl rfl rfl (by simp only [List.set_cons_zero, List.set_cons_succ]; rfl) ?_
                   | refine Fx.pure_ rfl rfl (fun _ => by go_simp; first | done | rfl) (by simp only [List.set_cons_zero, List.set_cons_succ]; rfl) ?_)
              | (with_reducible refine Fx.lab1 ?_
                 refine Fx.look rfl rfl (fun w' hC => by obtain ⟨hc, hf, hl⟩ := Ext.cells hC; go_simp; rfl) (by simp only [List.set_cons_zero, List.set_cons_succ]; rfl) ?_)
          refine Fx.look rfl rfl (op_load_Id' hib i0 i1 rfl) (by simp only [List.set_cons_zero, List.set_cons_succ]; rfl) ?_
          iterate 4
            first
              | refine Fx.skip rfl rfl (by simp only [List.set_cons_zero, List.set_cons_succ]; rfl) ?_
              | (with_reducible refine Fx.lab0 ?_
                 first
                   | refine Fx.moveT rfl rfl rfl (by simp only [List.set_cons_zero, List.set_cons_succ]; rfl) ?_
                   | refine Fx.assignT rfl rfl rfl (by simp only [List.set_cons_zero, List.set_cons_succ]; rfl) ?_
                   | refine Fx.pure_ rfl rfl (fun _ => by go_simp; first | done | rfl) (by simp only [List.set_cons_zero, List.set_cons_succ]; rfl) ?_)
              | (with_reducible refine Fx.lab1 ?_
                 refine Fx.look rfl rfl (fun w' hC => by obtain ⟨hc, hf, hl⟩ := Ext.cells hC; go_simp; rfl) (by simp only [List.set_cons_zero, List.set_cons_succ]; rfl) ?_)
          refine Fx.look rfl rfl (op_load_Id' hib j0 j1 rfl) (by simp only [List.set_cons_zero, List.set_cons_succ]; rfl) ?_
          refine Fx.pure_ (v := .bool r) rfl rfl (fun w => by rw [op_eql_Id (m.f, m.c) (n.f, n.c) rfl rfl, ← Hr2.out]; rfl) (by simp only [List.set_cons_zero, List.set_cons_succ]; rfl) ?_
          refine Fx.done (fun w3 hC => ?_)
          have HE3 := Lib.hid (hE.out.trans hC)
          clear hC i0 i1 j0 j1 hib
          cases r with
          | true =>
            go_wp2
            go_ret
            exact ⟨rfl, HE2.out.trans HE3.out⟩
          | false =>
            go_wp2
            go_roundw
            case rel => exact ⟨k + 1, by omega, by go_num, Lib.hid (fun j hj hjk => by
              by_cases e : j = k
              · subst e; exact of_decide_eq_false Hr.out
              · exact hNo.out j hj (by omega)), HE3⟩
            case measure => simp [intOf]; omega
        · have hke : k = i := by omega
          go_wp2
          go_roundw
          case rel => exact ⟨i + 1, by omega, by go_num, Lib.hid (fun p q hp hq hpi => by
            by_cases e : p = i
            · subst e; exact hNo.out q (by omega) (by omega)
            · exact hAp.out p q hp hq (by omega)), hE⟩
          case measure => simp [intOf]; omega
    · have hil : i = L.length := by omega
      have hnd := apart_nodup (by have := hAp.out; rwa [hil] at this)
      have Hnd := Lib.hid hnd
      clear hnd hAp
      go_upto_region 12 with (go_at_call 12; refine (new_at _).mono ?_; rintro e w3 ⟨b, mb, rfl, hM, hE3, hb, hmb⟩; have HM := Lib.hid hM; have HE3 := Lib.hid hE3; have Hb := Lib.hid hb; have Hmb := Lib.hid hmb; clear hM hE3 hb hmb)
      go_upto_region 13 with (go_at_call 12; refine (new_at _).mono ?_; rintro e w4 ⟨c, mc, rfl, hM, hE4, hb, hmb⟩; have HM4 := Lib.hid hM; have HE4 := Lib.hid hE4; have Hc := Lib.hid hb; have Hmc := Lib.hid hmb; clear hM hE4 hb hmb)
      have HI4 : Hid (BookII w2 b mb (.slice none 0 0) b0 c mc (.slice none 0 0) b0 w4) := Lib.hid (by
        have s2 := hE.out.size
        have s3 := HE3.out.size
        have z1 := Hb.out
        have z2 := Hmb.out
        have z3 := Hc.out
        have z4 := Hmc.out
        have z5 := HM.out.obj.lt
        have z6 := HM.out.map.lt
        refine ⟨⟨HM.out.ext HE4.out, fun x hx => ?_, (hE.out.trans HE3.out).trans HE4.out⟩, ⟨HM4.out, fun x hx => ?_, (hE.out.trans HE3.out).trans HE4.out⟩, fun z h1 h2 => ?_⟩
        · rcases hx with h | h | h
          · omega
          · omega
          · simp [Value.ownBlock] at h
        · rcases hx with h | h | h
          · omega
          · omega
          · simp [Value.ownBlock] at h
        · rcases h1 with h | h | h <;> rcases h2 with h' | h' | h' <;> first | omega | (simp [Value.ownBlock] at h; done) | (simp [Value.ownBlock] at h'; done))
      clear HM HE3 Hb Hmb HM4 HE4 Hc Hmc hE
      have hT0 : 0 ≤ IntKind.u64.wrap turn := by rw [IntKind.wrap_u64]; omega
      have hT1 := Int.tmod_nonneg 81 hT0
      obtain ⟨T, hT⟩ : ∃ T : Nat, (IntKind.u64.wrap turn).tmod 81 = T := ⟨((IntKind.u64.wrap turn).tmod 81).toNat, by omega⟩
      have hT81 : T < 81 := by have := Int.tmod_lt_of_pos (IntKind.u64.wrap turn) (show (0 : Int) < 81 by omega); omega
      have hwT : IntKind.i64.wrap (T : Int) = T := IntWalk.i64_in _ ⟨by omega, by omega⟩
      obtain ⟨ux, hux⟩ : ∃ ux, IntKind.u64.wrap turn = ux := ⟨_, rfl⟩
      rw [hux] at hT hT0 hT1
      have hlen2 : (turnL T bk L).length = L.length := turnL_len T bk L
      have HLen2 := Lib.hid hlen2
      clear hlen2
      have Htq : Hid (∀ k, Bq (stB (turnL T bk L) k) ∧ (stB (turnL T bk L) k).log.length + (stB (turnL T bk L) k).wt.length ≤ k) := Lib.hid (stB_q _)
      have Hst2 : Hid (∀ k (h : k < L.length), stB (turnL T bk L) (k + 1) = takeS (stB (turnL T bk L) k) (L[turnI T L.length bk k]'(turnI_lt _ _ _ _ h))) := Lib.hid (fun k h => by
        rw [stB_succ _ (by rw [HLen2.out]; exact h), turnL_get _ _ _ _ h])
      have Hfin : Hid (Took (stB (turnL T bk L) L.length) (turnL T bk L)) := Lib.hid (by
        have := took_all (turnL T bk L) (((turnL_perm T bk L).map keyM).nodup_iff.2 Hnd.out) L.length (by rw [HLen2.out]; exact Nat.le_refl _)
        rwa [List.take_of_length_le (by rw [HLen2.out]; exact Nat.le_refl _)] at this)
      have Hperm := Lib.hid (turnL_perm T bk L)
      generalize turnL T bk L = LB at *
      go_wp2
      generalize wr = wA at *
      go_loopw [12] (fun q wr => ∃ (k : Nat) (lv lw : Value), k ≤ L.length ∧ q = .int .i64 k ∧ Hid (BookII w2 b mb lv (stB L k) c mc lw (stB LB k) wr)) (fun q _ => L.length - (intOf q).toNat)
      case atStart => exact ⟨0, _, _, Nat.zero_le _, rfl, by rw [stB_zero, stB_zero]; exact HI4⟩
      case round =>
        clear HI4
        obtain ⟨k, lv, lw, hk, rfl, hI⟩ := hrel
        by_cases hlt : k < L.length
        · have hki := turnI_lt T L.length bk k hlt
          obtain ⟨jb, joff, rfl, hjbl, j0, j1, j2⟩ := Sl.at3 (HL2.out.ext hI.out.x.ext) hlt
          have hst := stB_succ L hlt
          have hst2 := Hst2.out k hlt
          obtain ⟨hq, hln⟩ := stB_q L k
          obtain ⟨hq2, hln2⟩ := Htq.out k
          obtain ⟨m2, hm2⟩ : ∃ m2, L[turnI T L.length bk k]'hki = m2 := ⟨_, rfl⟩
          rw [hm2] at hst2
          have Hm2 := Lib.hid (show L[turnI T L.length bk k]? = some m2 by rw [List.getElem?_eq_getElem hki, hm2])
          clear hm2
          generalize L[k] = m at *
          obtain ⟨σ, hσ⟩ : ∃ σ, stB L k = σ := ⟨_, rfl⟩
          obtain ⟨τ, hτ⟩ : ∃ τ, stB LB k = τ := ⟨_, rfl⟩
          rw [hσ, hτ] at hI
          rw [hσ] at hst hq hln
          rw [hτ] at hst2 hq2 hln2
          have Hst := Lib.hid hst
          have HstB := Lib.hid hst2
          have Hq := Lib.hid hq
          have Hln := Lib.hid hln
          have Hq2 := Lib.hid hq2
          have Hln2 := Lib.hid hln2
          have hwk : IntKind.i64.wrap ((k : Int) + 1) = (k : Int) + 1 := IntWalk.i64_in _ ⟨by omega, by omega⟩
          have hwkT : IntKind.i64.wrap ((k : Int) + (T : Int)) = (k : Int) + (T : Int) := IntWalk.i64_in _ ⟨by omega, by omega⟩
          obtain ⟨kk, hkk⟩ : ∃ kk : Nat, (k + T) % L.length = kk := ⟨_, rfl⟩
          have hkkl : kk < L.length := by rw [← hkk]; exact Nat.mod_lt _ (by omega)
          have htm : ((k : Int) + (T : Int)).tmod (L.length : Int) = (kk : Int) := by rw [← hkk, Int.tmod_eq_emod_of_nonneg (by omega)]; push_cast; rfl
          have hNz : ¬ (L.length : Int) = 0 := by omega
          have hNz2 : ((L.length : Int) == 0) = false := beq_false_of_ne hNz
          have hNz3 : ¬ L.length = 0 := by omega
          have hNz4 : ¬ L = [] := by intro e; subst e; simp at hlt
          have hwkk : IntKind.i64.wrap (kk : Int) = (kk : Int) := IntWalk.i64_in _ ⟨by omega, by omega⟩
          have hw1 : IntKind.i64.wrap ((L.length : Int) - 1) = (L.length : Int) - 1 := IntWalk.i64_in _ ⟨by omega, by omega⟩
          have hw2 : IntKind.i64.wrap ((L.length : Int) - 1 - (kk : Int)) = (L.length : Int) - 1 - (kk : Int) := IntWalk.i64_in _ ⟨by omega, by omega⟩
          obtain ⟨kz, hkz⟩ : ∃ kz : Nat, turnI T L.length bk k = kz := ⟨_, rfl⟩
          have hkzl : kz < L.length := by rw [← hkz]; exact hki
          have hkzI : (if bk then (L.length : Int) - 1 - (kk : Int) else (kk : Int)) = (kz : Int) := by
            rw [← hkz]; unfold turnI; rw [hkk]; cases bk <;> simp <;> omega
          rw [hkz] at Hm2
          have HkzI := Lib.hid hkzI
          have Hm2' := Lib.hid (show (L[kz]'hkzl) = m2 by have := Hm2.out; rw [List.getElem?_eq_getElem hkzl] at this; injection this)
          clear hσ hτ hst hst2 hq hln hq2 hln2 hkk hkz hkzI hki Hm2
          go_upto_region 16 with fail
          refine wp_region_line [(0,0),(1,0),(2,0),(3,0),(4,0),(5,0),(6,0),(7,0),(8,0),(9,0)] (by kernel_rfl) (by kernel_rfl) (Ext wr) (fun _ _ h k => h.trans k) (Ext.refl _) ?_
          iterate 10
            first
              | refine Fx.skip rfl rfl (by simp only [List.set_cons_zero, List.set_cons_succ]; rfl) ?_
              | (with_reducible refine Fx.lab0 ?_
                 first
                   | refine Fx.moveT rfl rfl rfl (by simp only [List.set_cons_zero, List.set_cons_succ]; rfl) ?_
                   | refine Fx.assignT rfl rfl rfl (by simp only [List.set_cons_zero, List.set_cons_succ]; rfl) ?_
                   | refine Fx.pure_ rfl rfl (fun _ => by go_simp; first | done | rfl) (by simp only [List.set_cons_zero, List.set_cons_succ]; rfl) ?_)
              | (with_reducible refine Fx.lab1 ?_
                 refine Fx.look rfl rfl (fun w' hC => by obtain ⟨hc, hf, hl⟩ := Ext.cells hC; go_simp; rfl) (by simp only [List.set_cons_zero, List.set_cons_succ]; rfl) ?_)
          refine Fx.done (fun w5 hC => ?_)
          have HI5 := Lib.hid (hI.out.ext' hC)
          obtain ⟨xc, xf, xl⟩ := hC.cells
          replace j0 := (xc _ _ hjbl).trans j0
          replace j1 := (xc _ _ hjbl).trans j1
          replace j2 := (xc _ _ hjbl).trans j2
          replace hjbl := xl _ hjbl
          clear xc xf xl hC hI
          have HK : ∀ (z : Int), z = (kz : Int) → z = (kz : Int) := fun _ h => h
          cases bk
          all_goals
            have hkzI := HkzI.out
            simp only [Bool.false_eq_true, if_true, if_false] at hkzI
            go_upto_region 19 with fail
            try rw [hkzI]
            refine wp_region_line [(0,0),(1,0),(2,0),(3,0),(4,1),(5,3)] (by kernel_rfl) (by kernel_rfl) (Ext w5) (fun _ _ h k => h.trans k) (Ext.refl _) ?_
            iterate 4
              first
                | refine Fx.skip rfl rfl (by simp only [List.set_cons_zero, List.set_cons_succ]; rfl) ?_
                | (with_reducible refine Fx.lab0 ?_
                   first
                     | refine Fx.moveT rfl rfl rfl (by simp only [List.set_cons_zero, List.set_cons_succ]; rfl) ?_
                     | refine Fx.assignT rfl rfl rfl (by simp only [List.set_cons_zero, List.set_cons_succ]; rfl) ?_
                     | refine Fx.pure_ rfl rfl (fun _ => by go_simp; first | done | rfl) (by simp only [List.set_cons_zero, List.set_cons_succ]; rfl) ?_)
                | (with_reducible refine Fx.lab1 ?_
                   refine Fx.look rfl rfl (fun w' hC => by obtain ⟨hc, hf, hl⟩ := Ext.cells hC; go_simp; rfl) (by simp only [List.set_cons_zero, List.set_cons_succ]; rfl) ?_)
            refine Fx.look rfl rfl (op_load_Ms' (m := m) hjbl j0 j1 j2 rfl) (by simp only [List.set_cons_zero, List.set_cons_succ]; rfl) ?_
            refine Fx.eff (fun _ w' => ∃ lv', BookII w2 b mb lv' (takeS σ m) c mc lw τ w') (fun _ _ _ h k => let ⟨lv', h1⟩ := h; ⟨lv', h1.ext' k⟩) rfl rfl (fun w' hC => stepAt_takeX HI5.out Hq.out.ok (by have := Hln.out; omega) m hC (by first | (go_simp; done) | (go_simp; rfl))) (fun u => ?_)
            simp only [List.set_cons_zero, List.set_cons_succ]
            refine Fx.done (fun w6 hC => ?_)
            obtain ⟨lv', hI6⟩ := hC
            have HI6 := Lib.hid hI6
            clear hI6 j0 j1 j2 hjbl
            obtain ⟨jb2, joff2, he, hjbl, j0, j1, j2⟩ := Sl.at3 (HL2.out.ext HI6.out.x.ext) hkzl
            injection he with he
            injection he with he1 he2
            subst he1; subst he2
            rw [Hm2'.out] at j0 j1 j2
            go_upto_region 20 with fail
            refine wp_region_line [(0,0),(1,0),(2,0),(3,0),(4,1),(5,3)] (by kernel_rfl) (by kernel_rfl) (Ext w6) (fun _ _ h k => h.trans k) (Ext.refl _) ?_
            iterate 4
              first
                | refine Fx.skip rfl rfl (by simp only [List.set_cons_zero, List.set_cons_succ]; rfl) ?_
                | (with_reducible refine Fx.lab0 ?_
                   first
                     | refine Fx.moveT rfl rfl rfl (by simp only [List.set_cons_zero, List.set_cons_succ]; rfl) ?_
                     | refine Fx.assignT rfl rfl rfl (by simp only [List.set_cons_zero, List.set_cons_succ]; rfl) ?_
                     | refine Fx.pure_ rfl rfl (fun _ => by go_simp; first | done | rfl) (by simp only [List.set_cons_zero, List.set_cons_succ]; rfl) ?_)
                | (with_reducible refine Fx.lab1 ?_
                   refine Fx.look rfl rfl (fun w' hC => by obtain ⟨hc, hf, hl⟩ := Ext.cells hC; go_simp; rfl) (by simp only [List.set_cons_zero, List.set_cons_succ]; rfl) ?_)
            refine Fx.look rfl rfl (op_load_Ms' (m := m2) hjbl j0 j1 j2 rfl) (by simp only [List.set_cons_zero, List.set_cons_succ]; rfl) ?_
            refine Fx.eff (fun _ w' => ∃ lw', BookII w2 b mb lv' (takeS σ m) c mc lw' (takeS τ m2) w') (fun _ _ _ h k => let ⟨lv', h1⟩ := h; ⟨lv', h1.ext' k⟩) rfl rfl (fun w' hC => stepAt_takeY HI6.out Hq2.out.ok (by have := Hln2.out; omega) m2 hC (by first | (go_simp; done) | (go_simp; rfl))) (fun u => ?_)
            simp only [List.set_cons_zero, List.set_cons_succ]
            refine Fx.done (fun w7 hC => ?_)
            obtain ⟨lw', hI7⟩ := hC
            have HI7 := Lib.hid hI7
            clear hI7 j0 j1 j2
            go_wp2
            go_roundw
            case rel => exact ⟨k + 1, lv', lw', by omega, by go_num, by rw [Hst.out, HstB.out]; exact HI7⟩
            case measure => simp [intOf]; omega
        · have hkl : k = L.length := by omega
          obtain ⟨hq, hln⟩ := stB_q L k
          obtain ⟨hq2, hln2⟩ := Htq.out k
          have hfin := Hfin.out
          have htk := took_all L Hnd.out k hk
          rw [hkl, List.take_length] at htk
          rw [← hkl] at hfin htk
          obtain ⟨σ, hσ⟩ : ∃ σ, stB L k = σ := ⟨_, rfl⟩
          obtain ⟨τ, hτ⟩ : ∃ τ, stB LB k = τ := ⟨_, rfl⟩
          rw [hσ, hτ] at hI
          rw [hσ] at hq hln htk
          rw [hτ] at hq2 hln2 hfin
          obtain ⟨z1, z2, z3⟩ := htk.same hfin Hperm.out.symm Hnd.out
          have hnodup := htk.nodup Hnd.out
          have Hq := Lib.hid hq
          have Hq2 := Lib.hid hq2
          have Hln := Lib.hid hln
          have Hln2 := Lib.hid hln2
          have Hz1 := Lib.hid z1
          have Hz3 := Lib.hid z3
          have Hz2 := Lib.hid z2
          have HTk := Lib.hid htk
          have Hnod := Lib.hid hnodup
          clear hσ hτ hq hln hq2 hln2 hfin htk z1 z2 z3 hnodup hkl Hfin Hst2 Htq Hperm HLen2 Hnd
          go_upto_region 22 with (go_at_call 14; refine (log_at hI.out.x.bk (by have := Hln.out; omega)).mono ?_; rintro e w5 ⟨gv, rfl, hg, hE5, hgf⟩; obtain ⟨gA, gcap, rfl, hgc⟩ := hg.val; have HG := Lib.hid (hg.sl Ms.len); have HE5 := Lib.hid hE5; clear hg hE5 hgf hgc)
          have HI5 := Lib.hid (hI.out.ext' HE5.out)
          obtain ⟨G, hG⟩ : ∃ G, σ.log = G := ⟨_, rfl⟩
          have hG80 : G.length ≤ 80 := by have := Hln.out; rw [hG] at this; omega
          have z2 := Hz2.out
          rw [hG] at HG z2 ⊢
          have HGe := Lib.hid hG
          have HZ2 := Lib.hid z2
          clear hG hI HE5 z2
          go_wp2
          generalize wr = wA at *
          go_loopw [15] (fun q wx => ∃ (j : Nat), q = .int .i64 j ∧ j ≤ G.length ∧ Hid (Ext w5 wx)) (fun q _ => G.length - (intOf q).toNat)
          case atStart => exact ⟨0, rfl, Nat.zero_le _, Lib.hid (Ext.refl _)⟩
          case round =>
            obtain ⟨j, rfl, hj, hE⟩ := hrel
            have HI6 := Lib.hid (HI5.out.ext' hE.out)
            by_cases hlt : j < G.length
            · obtain ⟨jb, joff, rfl, hjbl, j0, j1, j2⟩ := Sl.at3 (HG.out.ext hE.out) hlt
              have hwj : IntKind.i64.wrap ((j : Int) + 1) = (j : Int) + 1 := IntWalk.i64_in _ ⟨by omega, by omega⟩
              obtain ⟨m, hm⟩ : ∃ m, G[j] = m := ⟨_, rfl⟩
              have hmG : m ∈ σ.log := by rw [HGe.out, ← hm]; exact List.getElem_mem _
              rw [hm] at j0 j1
              obtain ⟨p1, p2, p3, p4⟩ := log_count HTk.out.ord hmG
              have p5 := HTk.out.q.cnt m.f p1 p2
              have p6 := Hz1.out m.f p1 p2
              have hh : hasB τ m.f m.c = true := by
                unfold hasB
                have : decide (m.c ≤ τ.tk m.f.toNat) = true := by simp; omega
                rw [this]; simp; omega
              have hn : nextB τ m.f = nextB σ m.f := by unfold nextB; rw [p6]
              obtain ⟨nx, hnx⟩ : ∃ nx, nextB σ m.f = nx := ⟨_, rfl⟩
              rw [hnx] at hn
              have HH := Lib.hid hh
              have HN := Lib.hid hn
              have HNX := Lib.hid hnx
              clear hm hmG p1 p2 p3 p4 p5 p6 hh hn hnx j2
              go_upto_region 25 with fail
              refine wp_region_plan [(0,0),(1,0),(2,0),(3,0),(4,0),(5,1),(6,1),(7,0),(8,0),(9,0),(10,0),(11,0),(12,0),(13,0),(14,0),(15,1),(16,1),(17,0),(18,0),(19,0),(20,0),(21,0),(22,0),(23,1),(24,1),(25,0),(26,0)] (by kernel_rfl) (by kernel_rfl) (by kernel_rfl) (Ext wr) (fun _ _ h k => h.trans k) (Ext.drawn _ _) ?_
              iterate 5
                first
                  | refine Fx.skip rfl rfl (by simp only [List.set_cons_zero, List.set_cons_succ]; rfl) ?_
                  | (with_reducible refine Fx.lab0 ?_
                     first
                       | refine Fx.moveT rfl rfl rfl (by simp only [List.set_cons_zero, List.set_cons_succ]; rfl) ?_
                       | refine Fx.assignT rfl rfl rfl (by simp only [List.set_cons_zero, List.set_cons_succ]; rfl) ?_
                       | refine Fx.pure_ rfl rfl (fun _ => by go_simp; first | done | rfl) (by simp only [List.set_cons_zero, List.set_cons_succ]; rfl) ?_)
                  | (with_reducible refine Fx.lab1 ?_
                     refine Fx.look rfl rfl (fun w' hC => by obtain ⟨hc, hf, hl⟩ := Ext.cells hC; go_simp; rfl) (by simp only [List.set_cons_zero, List.set_cons_succ]; rfl) ?_)
              refine Fx.look rfl rfl (op_load_Id' hjbl j0 j1 rfl) (by simp only [List.set_cons_zero, List.set_cons_succ]; rfl) ?_
              refine Fx.call1 (v := .bool true) (args := #[.pointer (some ⟨c, 0, none⟩), .agg #[.int .i64 m.f, .int .u32 m.c]]) rfl rfl (fun _ => by first | (go_simp; done) | (go_simp; rfl)) (fun w' hC => (has_at (HI6.out.y.bk.ext hC) Hq2.out.ok m.f m.c).mono (fun e w'' hh => by rw [HH.out] at hh; exact hh)) (by simp only [List.set_cons_zero, List.set_cons_succ]; rfl) ?_
              iterate 9
                first
                  | refine Fx.skip rfl rfl (by simp only [List.set_cons_zero, List.set_cons_succ]; rfl) ?_
                  | (with_reducible refine Fx.lab0 ?_
                     first
                       | refine Fx.moveT rfl rfl rfl (by simp only [List.set_cons_zero, List.set_cons_succ]; rfl) ?_
                       | refine Fx.assignT rfl rfl rfl (by simp only [List.set_cons_zero, List.set_cons_succ]; rfl) ?_
                       | refine Fx.pure_ rfl rfl (fun _ => by go_simp; first | done | rfl) (by simp only [List.set_cons_zero, List.set_cons_succ]; rfl) ?_)
                  | (with_reducible refine Fx.lab1 ?_
                     refine Fx.look rfl rfl (fun w' hC => by obtain ⟨hc, hf, hl⟩ := Ext.cells hC; go_simp; rfl) (by simp only [List.set_cons_zero, List.set_cons_succ]; rfl) ?_)
              refine Fx.call1 (v := .int .u32 nx) (args := #[.pointer (some ⟨c, 0, none⟩), .int .i64 m.f]) rfl rfl (fun _ => by first | (go_simp; done) | (go_simp; rfl)) (fun w' hC => (next_at (HI6.out.y.bk.ext hC) Hq2.out.ok m.f).mono (fun e w'' hh => by rw [HN.out] at hh; exact ⟨hh.1, by rw [hh.2]; exact Ext.refl _⟩)) (by simp only [List.set_cons_zero, List.set_cons_succ]; rfl) ?_
              iterate 7
                first
                  | refine Fx.skip rfl rfl (by simp only [List.set_cons_zero, List.set_cons_succ]; rfl) ?_
                  | (with_reducible refine Fx.lab0 ?_
                     first
                       | refine Fx.moveT rfl rfl rfl (by simp only [List.set_cons_zero, List.set_cons_succ]; rfl) ?_
                       | refine Fx.assignT rfl rfl rfl (by simp only [List.set_cons_zero, List.set_cons_succ]; rfl) ?_
                       | refine Fx.pure_ rfl rfl (fun _ => by go_simp; first | done | rfl) (by simp only [List.set_cons_zero, List.set_cons_succ]; rfl) ?_)
                  | (with_reducible refine Fx.lab1 ?_
                     refine Fx.look rfl rfl (fun w' hC => by obtain ⟨hc, hf, hl⟩ := Ext.cells hC; go_simp; rfl) (by simp only [List.set_cons_zero, List.set_cons_succ]; rfl) ?_)
              refine Fx.call1 (v := .int .u32 nx) (args := #[.pointer (some ⟨b, 0, none⟩), .int .i64 m.f]) rfl rfl (fun _ => by first | (go_simp; done) | (go_simp; rfl)) (fun w' hC => (next_at (HI6.out.x.bk.ext hC) Hq.out.ok m.f).mono (fun e w'' hh => by rw [HNX.out] at hh; exact ⟨hh.1, by rw [hh.2]; exact Ext.refl _⟩)) (by simp only [List.set_cons_zero, List.set_cons_succ]; rfl) ?_
              iterate 2
                first
                  | refine Fx.skip rfl rfl (by simp only [List.set_cons_zero, List.set_cons_succ]; rfl) ?_
                  | (with_reducible refine Fx.lab0 ?_
                     first
                       | refine Fx.moveT rfl rfl rfl (by simp only [List.set_cons_zero, List.set_cons_succ]; rfl) ?_
                       | refine Fx.assignT rfl rfl rfl (by simp only [List.set_cons_zero, List.set_cons_succ]; rfl) ?_
                       | refine Fx.pure_ rfl rfl (fun _ => by go_simp; first | done | rfl) (by simp only [List.set_cons_zero, List.set_cons_succ]; rfl) ?_)
                  | (with_reducible refine Fx.lab1 ?_
                     refine Fx.look rfl rfl (fun w' hC => by obtain ⟨hc, hf, hl⟩ := Ext.cells hC; go_simp; rfl) (by simp only [List.set_cons_zero, List.set_cons_succ]; rfl) ?_)
              refine Fx.done (fun w7 hC => ?_)
              have HC := Lib.hid (hE.out.trans hC)
              clear hC j0 j1
              go_wp2
              go_roundw
              case rel => exact ⟨j + 1, by go_num, by omega, HC⟩
              case measure => simp [intOf]; omega
            · obtain ⟨wl, hwl⟩ : ∃ wl, (σ.wt.map (·.2)).length = wl := ⟨_, rfl⟩
              have hwl2 : (τ.wt.map (·.2)).length = wl := by rw [← Hz3.out.length_eq]; exact hwl
              have hwl80 : wl ≤ 80 := by have := Hln.out; rw [List.length_map] at hwl; omega
              have Hwl := Lib.hid hwl
              have Hwl2 := Lib.hid hwl2
              have hgg : τ.log.length ≤ 1000000 := by have := Hln2.out; omega
              have HGG := Lib.hid hgg
              clear hwl hwl2 hgg
              go_upto_region 27 with fail
              refine wp_region_line [(0,0),(1,0),(2,0),(3,0),(4,0),(5,2),(6,0),(7,0),(8,0),(9,0),(10,0),(11,2),(12,0),(13,2),(14,1),(15,0),(16,0)] (by kernel_rfl) (by kernel_rfl) (Ext wr) (fun _ _ h k => h.trans k) (Ext.refl _) ?_
              iterate 5
                first
                  | refine Fx.skip rfl rfl (by simp only [List.set_cons_zero, List.set_cons_succ]; rfl) ?_
                  | (with_reducible refine Fx.lab0 ?_
                     first
                       | refine Fx.moveT rfl rfl rfl (by simp only [List.set_cons_zero, List.set_cons_succ]; rfl) ?_
                       | refine Fx.assignT rfl rfl rfl (by simp only [List.set_cons_zero, List.set_cons_succ]; rfl) ?_
                       | refine Fx.pure_ rfl rfl (fun _ => by go_simp; first | done | rfl) (by simp only [List.set_cons_zero, List.set_cons_succ]; rfl) ?_)
                  | (with_reducible refine Fx.lab1 ?_
                     refine Fx.look rfl rfl (fun w' hC => by obtain ⟨hc, hf, hl⟩ := Ext.cells hC; go_simp; rfl) (by simp only [List.set_cons_zero, List.set_cons_succ]; rfl) ?_)
              refine Fx.mkBy (fun x : Option Addr × Nat => .slice x.1 G.length x.2) (fun _ _ => True) (fun _ _ _ h _ => h) rfl rfl (fun w' hC => ?_) (fun x => ?_)
              · unfold stepAt
                rw [show (execOp _ _).run Try.prog w' = .ok (.enter 14 #[.pointer (some ⟨c, 0, none⟩)]) w' from by first | (go_simp; done) | (go_simp; rfl)]
                exact (log_at (HI6.out.y.bk.ext hC) HGG.out).mono (fun e w'' hh => by
                  obtain ⟨v', rfl, h1, h2, h3⟩ := hh
                  obtain ⟨A', c', rfl, -⟩ := h1.val
                  exact ⟨_, rfl, (A', c'), by rw [HZ2.out], h2, trivial⟩)
              simp only [List.set_cons_zero, List.set_cons_succ]
              iterate 5
                first
                  | refine Fx.skip rfl rfl (by simp only [List.set_cons_zero, List.set_cons_succ]; rfl) ?_
                  | (with_reducible refine Fx.lab0 ?_
                     first
                       | refine Fx.moveT rfl rfl rfl (by simp only [List.set_cons_zero, List.set_cons_succ]; rfl) ?_
                       | refine Fx.assignT rfl rfl rfl (by simp only [List.set_cons_zero, List.set_cons_succ]; rfl) ?_
                       | refine Fx.pure_ rfl rfl (fun _ => by go_simp; first | done | rfl) (by simp only [List.set_cons_zero, List.set_cons_succ]; rfl) ?_)
                  | (with_reducible refine Fx.lab1 ?_
                     refine Fx.look rfl rfl (fun w' hC => by obtain ⟨hc, hf, hl⟩ := Ext.cells hC; go_simp; rfl) (by simp only [List.set_cons_zero, List.set_cons_succ]; rfl) ?_)
              refine Fx.mkBy (fun x : Option Addr × Nat => .slice x.1 wl x.2) (WtR σ.wt wl) (wtR_stable _ _) rfl rfl (fun w' hC => ?_) (fun x1 => ?_)
              · unfold stepAt
                rw [show (execOp _ _).run Try.prog w' = .ok (.enter 24 #[.pointer (some ⟨b, 0, none⟩)]) w' from by first | (go_simp; done) | (go_simp; rfl)]
                exact (waiting_at (HI6.out.x.bk.ext hC.1) (by have := Hwl.out; rw [List.length_map] at this; omega)).mono (fun e w'' hh => by
                  obtain ⟨v', L', rfl, h1, h2, h3, h4⟩ := hh
                  obtain ⟨A', c', rfl, -⟩ := h1.val
                  have hll : L'.length = wl := by rw [h2.length_eq, Hwl.out]
                  exact ⟨_, rfl, (A', c'), by rw [hll], h4, L', by rw [← hll]; exact h1, h2, h3⟩)
              simp only [List.set_cons_zero, List.set_cons_succ]
              first
                | refine Fx.skip rfl rfl (by simp only [List.set_cons_zero, List.set_cons_succ]; rfl) ?_
                | (with_reducible refine Fx.lab0 ?_
                   first
                     | refine Fx.moveT rfl rfl rfl (by simp only [List.set_cons_zero, List.set_cons_succ]; rfl) ?_
                     | refine Fx.assignT rfl rfl rfl (by simp only [List.set_cons_zero, List.set_cons_succ]; rfl) ?_
                     | refine Fx.pure_ rfl rfl (fun _ => by go_simp; first | done | rfl) (by simp only [List.set_cons_zero, List.set_cons_succ]; rfl) ?_)
                | (with_reducible refine Fx.lab1 ?_
                   refine Fx.look rfl rfl (fun w' hC => by obtain ⟨hc, hf, hl⟩ := Ext.cells hC; go_simp; rfl) (by simp only [List.set_cons_zero, List.set_cons_succ]; rfl) ?_)
              refine Fx.mkBy (fun x : Option Addr × Nat => .slice x.1 wl x.2) (WtR τ.wt wl) (wtR_stable _ _) rfl rfl (fun w' hC => ?_) (fun x2 => ?_)
              · unfold stepAt
                rw [show (execOp _ _).run Try.prog w' = .ok (.enter 24 #[.pointer (some ⟨c, 0, none⟩)]) w' from by first | (go_simp; done) | (go_simp; rfl)]
                exact (waiting_at (HI6.out.y.bk.ext hC.1.1) (by have := Hwl2.out; rw [List.length_map] at this; omega)).mono (fun e w'' hh => by
                  obtain ⟨v', L', rfl, h1, h2, h3, h4⟩ := hh
                  obtain ⟨A', c', rfl, -⟩ := h1.val
                  have hll : L'.length = wl := by rw [h2.length_eq, Hwl2.out]
                  exact ⟨_, rfl, (A', c'), by rw [hll], h4, L', by rw [← hll]; exact h1, h2, h3⟩)
              simp only [List.set_cons_zero, List.set_cons_succ]
              refine Fx.call1 (v := .bool true) (args := #[.slice x1.1 wl x1.2, .slice x2.1 wl x2.2]) rfl rfl (fun _ => by first | (go_simp; done) | (go_simp; rfl)) (fun w' hC => ?_) (by simp only [List.set_cons_zero, List.set_cons_succ]; rfl) ?_
              · obtain ⟨⟨_, S1, s1, s2, s3⟩, S2, r1, r2, r3⟩ := hC
                have e : S1 = S2 := by
                  refine sorted_unique ((s2.trans Hz3.out).trans r2.symm) ?_ s3 r3
                  have := Hnod.out
                  rw [List.map_append] at this
                  exact ((s2.map keyM).nodup_iff).2 (List.nodup_append.1 this).2.1
                subst e
                exact (same_ref _ _ S1 S1 w' s1 r1 (by rw [s2.length_eq, Hwl.out]; omega)).mono (fun e w'' hh => by rw [show sameB S1 S1 = true by simp [sameB]] at hh; exact hh)
              iterate 2
                first
                  | refine Fx.skip rfl rfl (by simp only [List.set_cons_zero, List.set_cons_succ]; rfl) ?_
                  | (with_reducible refine Fx.lab0 ?_
                     first
                       | refine Fx.moveT rfl rfl rfl (by simp only [List.set_cons_zero, List.set_cons_succ]; rfl) ?_
                       | refine Fx.assignT rfl rfl rfl (by simp only [List.set_cons_zero, List.set_cons_succ]; rfl) ?_
                       | refine Fx.pure_ rfl rfl (fun _ => by go_simp; first | done | rfl) (by simp only [List.set_cons_zero, List.set_cons_succ]; rfl) ?_)
                  | (with_reducible refine Fx.lab1 ?_
                     refine Fx.look rfl rfl (fun w' hC => by obtain ⟨hc, hf, hl⟩ := Ext.cells hC; go_simp; rfl) (by simp only [List.set_cons_zero, List.set_cons_succ]; rfl) ?_)
              refine Fx.done (fun w9 hC => ?_)
              have HC := Lib.hid hC.1.1.1
              clear hC
              go_wp2
              go_ret
              exact ⟨rfl, HE2.out.trans (HI6.out.x.ext.trans HC.out)⟩
end Go.Proofs.Ytbjondnombnpbaa
