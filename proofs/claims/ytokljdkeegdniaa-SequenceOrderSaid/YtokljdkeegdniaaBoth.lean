/-
  rostrumlaw11: both, two epochs' sequencers.
-/
import Derived.Test.YtokljdkeegdniaaAny
import Derived.Test.YtokljdkeegdniaaAllS
namespace Go.Proofs.Ytokljdkeegdniaa
open Go.RowKit
attribute [local go_sem] Oper.semAt_some

def sM (i : Nat) : Ms := mMsg ((i % 3 : Nat) : Int) (((i / 3 : Nat) : Int) + 1)
def tM (i : Nat) : Ms := mMsg (3 + ((i % 2 : Nat) : Int)) (((i / 2 : Nat) : Int) + 1)
def srcX (ep : Int) (f : Nat → Ms) (i : Nat) : Nb := ⟨ep, (i : Int) + 1, f i⟩
def srcL (ep : Int) (f : Nat → Ms) (n : Nat) : List Nb := (List.range n).map (srcX ep f)
theorem srcL_len (ep : Int) (f : Nat → Ms) (n : Nat) : (srcL ep f n).length = n := by simp [srcL]
theorem srcL_get {ep : Int} {f : Nat → Ms} {n k : Nat} (h : k < (srcL ep f n).length) : (srcL ep f n)[k] = srcX ep f k := by simp [srcL]
def qN (ep : Int) (f : Nat → Ms) : Nat → SqSt
  | 0 => sq0 ep
  | k + 1 => numS (qN ep f k) (f k)
theorem qN_spec (ep : Int) (f : Nat → Ms) (inj : ∀ i j, keyM (f i) = keyM (f j) → i = j) : ∀ k, (qN ep f k).ep = ep ∧ (qN ep f k).all = srcL ep f k ∧ (qN ep f k).nm.map (·.1) = (List.range k).map (fun i => keyM (f i))
  | 0 => ⟨rfl, rfl, rfl⟩
  | k + 1 => by
    obtain ⟨h1, h2, h3⟩ := qN_spec ep f inj k
    have hk : kfind (keyM (f k)) (qN ep f k).nm = none := by
      rw [kfind_none, h3]
      intro h
      obtain ⟨i, hi, e⟩ := List.mem_map.1 h
      rw [List.mem_range] at hi
      have := inj i k e
      omega
    have hs : qN ep f (k + 1) = { qN ep f k with nm := kput (keyM (f k)) (((qN ep f k).all.length : Int) + 1) (qN ep f k).nm, all := (qN ep f k).all ++ [⟨(qN ep f k).ep, (qN ep f k).all.length + 1, f k⟩] } := by
      show numS _ _ = _
      unfold numS; rw [hk]
    rw [hs]
    refine ⟨h1, ?_, ?_⟩
    · show (qN ep f k).all ++ _ = _
      rw [h2, h1, srcL_len]
      unfold srcL
      rw [List.range_succ, List.map_append]; rfl
    · show (kput _ _ _).map _ = _
      rw [kput_new hk, List.map_append, h3, List.range_succ, List.map_append]; rfl
theorem qN_len (ep : Int) (f : Nat → Ms) : ∀ k, (qN ep f k).all.length ≤ k
  | 0 => Nat.le_refl _
  | k + 1 => by
    have := qN_len ep f k
    show (numS _ _).all.length ≤ _
    unfold numS
    split
    · omega
    · simp; omega
theorem qN_ok (ep : Int) (f : Nat → Ms) : ∀ k, k ≤ 999999 → (qN ep f k).Ok
  | 0, _ => sq0_ok ep
  | k + 1, h => numS_ok (qN_ok ep f k (by omega)) (by have := qN_len ep f k; omega) _
theorem sM_inj (i j : Nat) (h : keyM (sM i) = keyM (sM j)) : i = j := by
  unfold keyM sM mMsg at h
  simp only [Prod.mk.injEq] at h
  omega
theorem tM_inj (i j : Nat) (h : keyM (tM i) = keyM (tM j)) : i = j := by
  unfold keyM tM mMsg at h
  simp only [Prod.mk.injEq] at h
  omega
theorem sM_right (k : Nat) (h : k ≤ 1000) : rightB (sM k) = true := by
  rw [rightB_iff]
  refine ⟨?_, ?_, ?_, ?_, show (⟨#[109]⟩ : ByteArray).size ≤ 1000 by decide⟩
  · show (0 : Int) ≤ ((k % 3 : Nat) : Int); omega
  · show ((k % 3 : Nat) : Int) < 16; omega
  · show (1 : Int) ≤ ((k / 3 : Nat) : Int) + 1; omega
  · show ((k / 3 : Nat) : Int) + 1 ≤ 4294967294; omega
theorem tM_right (k : Nat) (h : k ≤ 1000) : rightB (tM k) = true := by
  rw [rightB_iff]
  refine ⟨?_, ?_, ?_, ?_, show (⟨#[109]⟩ : ByteArray).size ≤ 1000 by decide⟩
  · show (0 : Int) ≤ 3 + ((k % 2 : Nat) : Int); omega
  · show 3 + ((k % 2 : Nat) : Int) < 16; omega
  · show (1 : Int) ≤ ((k / 2 : Nat) : Int) + 1; omega
  · show ((k / 2 : Nat) : Int) + 1 ≤ 4294967294; omega
/-- Two sequencers, apart. -/
structure TwoQ (w : World) (b mn : Nat) (av : Value) (σ : SqSt) (b' mn' : Nat) (av' : Value) (σ' : SqSt) (W : World) : Prop where
  p : SqAt W b mn av σ
  p' : SqAt W b' mn' av' σ'
  dis : ∀ x, FQ b mn av x → ¬ FQ b' mn' av' x
  fr : ∀ x, FQ b mn av x → w.heap.size ≤ x
  fr' : ∀ x, FQ b' mn' av' x → w.heap.size ≤ x
  e : Ext w W
theorem TwoQ.ext {w W W' : World} {b mn b' mn' : Nat} {av av' : Value} {σ σ' : SqSt} (h : TwoQ w b mn av σ b' mn' av' σ' W) (he : Ext W W') : TwoQ w b mn av σ b' mn' av' σ' W' := ⟨h.p.ext he, h.p'.ext he, h.dis, h.fr, h.fr', h.e.trans he⟩
theorem TwoQ.step {w W W' : World} {b mn b' mn' : Nat} {av av' u : Value} {σ σ' τ : SqSt} (h : TwoQ w b mn av σ b' mn' av' σ' W) (hp : SqAt W' b mn u τ) (hm : Mods (FQ b mn av) W W') (hu : ∀ x, u.ownBlock = some x → av.ownBlock = some x ∨ W.heap.size ≤ x) : TwoQ w b mn u τ b' mn' av' σ' W' := by
  have hk : ∀ x, FQ b mn u x → FQ b mn av x ∨ W.heap.size ≤ x := fun x hx => by
    rcases hx with hx | hx | hx
    · exact .inl (.inl hx)
    · exact .inl (.inr (.inl hx))
    · exact (hu x hx).imp (fun e => .inr (.inr e)) id
  refine ⟨hp, h.p'.mods hm (fun x hx hy => h.dis x hy hx), fun x hx hy => ?_, fun x hx => ?_, h.fr', ((h.e.mods _).trans hm (fun _ _ h => h)).ext_of (fun x hx e => by have := h.fr x e; omega)⟩
  · rcases hk x hx with e | e
    · exact h.dis x e hy
    · have := h.p'.lt hy; omega
  · rcases hk x hx with e | e
    · exact h.fr x e
    · have := h.e.size; omega
theorem TwoQ.swap {w W : World} {b mn b' mn' : Nat} {av av' : Value} {σ σ' : SqSt} (h : TwoQ w b mn av σ b' mn' av' σ' W) : TwoQ w b' mn' av' σ' b mn av σ W := ⟨h.p', h.p, fun x hx hy => h.dis x hy hx, h.fr', h.fr, h.e⟩
def BothR (w : World) (n : Nat) (e : Ending) (w' : World) : Prop :=
  ∃ v1 v2, e = .returned (.tuple #[v1, v2]) ∧ OwnNb w' v1 (srcL 1 sM n) ∧ OwnNb w' v2 (srcL 2 tM n) ∧ Ext w w'
set_option maxRecDepth 100000 in
set_option maxHeartbeats 6400000 in
theorem both_at (w : World) (n : Nat) (hn : n ≤ 20) : Calls Try.prog 21 #[.int .i64 n] w (BothR w n) := by
  go_enter Try.func21, Try.ntmps21
  go_upto_region 2 with (go_at_call 22; refine (newQ_at _ _).mono ?_; rintro e w1 ⟨b, mn, rfl, hM, hE, h1, h2⟩; have H1 := Lib.hid hM; have HE1 := Lib.hid hE; have HG1 := Lib.hid (And.intro h1 h2); clear hM hE h1 h2)
  go_wp2_with (go_at_call 22; refine (newQ_at _ _).mono ?_; rintro e w2 ⟨b', mn', rfl, hM, hE, h1, h2⟩; have H2 := Lib.hid hM; have HE2 := Lib.hid hE; have HG2 := Lib.hid (And.intro h1 h2); clear hM hE h1 h2)
  have HT : Hid (TwoQ w b mn (.slice none 0 0) (sq0 1) b' mn' (.slice none 0 0) (sq0 2) w2) := by
    have g1 := HG1.out
    have g2 := HG2.out
    have s1 := HE1.out.size
    refine Lib.hid ⟨H1.out.ext HE2.out, H2.out, fun x hx hy => ?_, fun x hx => ?_, fun x hx => ?_, HE1.out.trans HE2.out⟩
    · have := H1.out.lt hx
      rcases hy with hy | hy | hy
      · omega
      · omega
      · simp [Value.ownBlock] at hy
    · rcases hx with hx | hx | hx
      · omega
      · omega
      · simp [Value.ownBlock] at hx
    · rcases hx with hx | hx | hx
      · omega
      · omega
      · simp [Value.ownBlock] at hx
  clear H1 H2 HE1 HE2 HG1 HG2
  go_loopw [6] (fun q wr => ∃ (k : Nat) (av av' : Value), q = .int .i64 k ∧ k ≤ n ∧ Hid (TwoQ w b mn av (qN 1 sM k) b' mn' av' (qN 2 tM k) wr)) (fun q _ => n - (intOf q).toNat)
  case atStart => exact ⟨0, _, _, rfl, Nat.zero_le _, HT⟩
  case round =>
    obtain ⟨k, av, av', rfl, hk, hT⟩ := hrel
    by_cases hlt : k < n
    · have hm3 : (k : Int).tmod 3 = ((k % 3 : Nat) : Int) := by rw [Int.tmod_eq_emod_of_nonneg (by omega)]; rfl
      have hq3 : (k : Int).tdiv 3 = ((k / 3 : Nat) : Int) := by rw [Int.tdiv_eq_ediv_of_nonneg (by omega)]; rfl
      have hm2 : (k : Int).tmod 2 = ((k % 2 : Nat) : Int) := by rw [Int.tmod_eq_emod_of_nonneg (by omega)]; rfl
      have hq2 : (k : Int).tdiv 2 = ((k / 2 : Nat) : Int) := by rw [Int.tdiv_eq_ediv_of_nonneg (by omega)]; rfl
      obtain ⟨A3, hA3⟩ : ∃ A, k % 3 = A := ⟨_, rfl⟩
      obtain ⟨Q3, hQ3⟩ : ∃ A, k / 3 = A := ⟨_, rfl⟩
      obtain ⟨A2, hA2⟩ : ∃ A, k % 2 = A := ⟨_, rfl⟩
      obtain ⟨Q2, hQ2⟩ : ∃ A, k / 2 = A := ⟨_, rfl⟩
      have hs : sM k = mMsg (A3 : Int) ((Q3 : Int) + 1) := by unfold sM; rw [hA3, hQ3]
      have ht : tM k = mMsg (3 + (A2 : Int)) ((Q2 : Int) + 1) := by unfold tM; rw [hA2, hQ2]
      rw [hA3] at hm3
      rw [hQ3] at hq3
      rw [hA2] at hm2
      rw [hQ2] at hq2
      have b1 : A3 < 3 := by omega
      have b2 : Q3 ≤ 20 := by omega
      have b3 : A2 < 2 := by omega
      have b4 : Q2 ≤ 20 := by omega
      have hw1 : IntKind.i64.wrap (A3 : Int) = (A3 : Int) := IntWalk.i64_in _ ⟨by omega, by omega⟩
      have hw2 : IntKind.i64.wrap (Q3 : Int) = (Q3 : Int) := IntWalk.i64_in _ ⟨by omega, by omega⟩
      have hw3 : IntKind.i64.wrap (A2 : Int) = (A2 : Int) := IntWalk.i64_in _ ⟨by omega, by omega⟩
      have hw4 : IntKind.i64.wrap (Q2 : Int) = (Q2 : Int) := IntWalk.i64_in _ ⟨by omega, by omega⟩
      have hw5 : IntKind.i64.wrap (3 + (A2 : Int)) = 3 + (A2 : Int) := IntWalk.i64_in _ ⟨by omega, by omega⟩
      have hu1 : IntKind.u32.wrap (Q3 : Int) = (Q3 : Int) := by
        simp only [IntKind.wrap, IntKind.bits, IntKind.signed]
        simp; omega
      have hu2 : IntKind.u32.wrap (Q2 : Int) = (Q2 : Int) := by
        simp only [IntKind.wrap, IntKind.bits, IntKind.signed]
        simp; omega
      have hu3 : IntKind.u32.wrap ((Q3 : Int) + 1) = (Q3 : Int) + 1 := by
        simp only [IntKind.wrap, IntKind.bits, IntKind.signed]
        simp; omega
      have hu4 : IntKind.u32.wrap ((Q2 : Int) + 1) = (Q2 : Int) + 1 := by
        simp only [IntKind.wrap, IntKind.bits, IntKind.signed]
        simp; omega
      have hwk : IntKind.i64.wrap ((k : Int) + 1) = (k : Int) + 1 := IntWalk.i64_in _ ⟨by omega, by omega⟩
      have hrs := sM_right k (by omega)
      have hrt := tM_right k (by omega)
      rw [hs] at hrs
      rw [ht] at hrt
      have Hrs := Lib.hid hrs
      have Hrt := Lib.hid hrt
      have hsk : qN 1 sM (k + 1) = numS (qN 1 sM k) (mMsg (A3 : Int) ((Q3 : Int) + 1)) := by rw [← hs]; rfl
      have htk : qN 2 tM (k + 1) = numS (qN 2 tM k) (mMsg (3 + (A2 : Int)) ((Q2 : Int) + 1)) := by rw [← ht]; rfl
      have Hsk := Lib.hid hsk
      have Htk := Lib.hid htk
      have HOs := Lib.hid (qN_ok 1 sM k (by omega))
      have HOt := Lib.hid (qN_ok 2 tM k (by omega))
      have HLs : Hid ((qN 1 sM k).all.length ≤ 999999) := Lib.hid (by have := qN_len 1 sM k; omega)
      have HLt : Hid ((qN 2 tM k).all.length ≤ 999999) := Lib.hid (by have := qN_len 2 tM k; omega)
      clear hA3 hQ3 hA2 hQ2 hs ht b1 b2 b3 b4 hrs hrt hsk htk
      go_upto_region 6 with fail
      refine wp_region_line [(0,0),(1,0),(2,0),(3,0),(4,0),(5,0),(6,0),(7,1),(8,3)] (by kernel_rfl) (by kernel_rfl) (Ext wr) (fun _ _ h k => h.trans k) (Ext.refl _) ?_
      iterate 7
        first
          | refine Fx.skip rfl rfl (by simp only [List.set_cons_zero, List.set_cons_succ]; rfl) ?_
          | (with_reducible refine Fx.lab0 ?_
             first
               | refine Fx.moveT rfl rfl rfl (by simp only [List.set_cons_zero, List.set_cons_succ]; rfl) ?_
               | refine Fx.assignT rfl rfl rfl (by simp only [List.set_cons_zero, List.set_cons_succ]; rfl) ?_
               | refine Fx.pure_ rfl rfl (fun _ => by go_simp; first | done | rfl) (by simp only [List.set_cons_zero, List.set_cons_succ]; rfl) ?_)
          | (with_reducible refine Fx.lab1 ?_
             refine Fx.look rfl rfl (fun w' hC => by obtain ⟨hc, hf, hl⟩ := Ext.cells hC; go_simp; rfl) (by simp only [List.set_cons_zero, List.set_cons_succ]; rfl) ?_)
      refine Fx.call1 (v := (mMsg (A3 : Int) ((Q3 : Int) + 1)).val) (args := #[.int .i64 (A3 : Int), .int .u32 ((Q3 : Int) + 1)]) rfl rfl (fun _ => by first | (go_simp; done) | (go_simp; rfl)) (fun w' hC => msg_at _ _ w') (by simp only [List.set_cons_zero, List.set_cons_succ]; rfl) ?_
      refine Fx.effBy (β := Value) (fun _ => .tuple #[(numX (qN 1 sM k) (mMsg (A3 : Int) ((Q3 : Int) + 1))).val, .int .i64 0]) (fun u w' => TwoQ w b mn u (qN 1 sM (k + 1)) b' mn' av' (qN 2 tM k) w') ⟨undef⟩ (fun _ _ _ h k => h.ext k) rfl rfl (fun w' hC => ?_) (fun u => ?_)
      · unfold stepAt
        rw [show (execOp _ _).run Try.prog w' = .ok (.enter 23 #[.pointer (some ⟨b, 0, none⟩), (mMsg (A3 : Int) ((Q3 : Int) + 1)).val]) w' from by first | (go_simp; done) | (go_simp; rfl)]
        refine (num_at (hT.out.p.ext hC) HOs.out HLs.out _ Hrs.out).mono (fun e w'' hh => ?_)
        obtain ⟨u, rfl, h1, h2, h3⟩ := hh
        rw [← Hsk.out] at h1
        exact ⟨_, rfl, u, rfl, (hT.out.ext hC).step h1 h2 h3⟩
      simp only [List.set_cons_zero, List.set_cons_succ]
      refine Fx.done (fun w3 hC => ?_)
      have HT3 := Lib.hid hC
      clear hC
      go_upto_region 7 with fail
      refine wp_region_line [(0,0),(1,0),(2,0),(3,0),(4,0),(5,0),(6,0),(7,0),(8,1),(9,3)] (by kernel_rfl) (by kernel_rfl) (Ext w3) (fun _ _ h k => h.trans k) (Ext.refl _) ?_
      iterate 8
        first
          | refine Fx.skip rfl rfl (by simp only [List.set_cons_zero, List.set_cons_succ]; rfl) ?_
          | (with_reducible refine Fx.lab0 ?_
             first
               | refine Fx.moveT rfl rfl rfl (by simp only [List.set_cons_zero, List.set_cons_succ]; rfl) ?_
               | refine Fx.assignT rfl rfl rfl (by simp only [List.set_cons_zero, List.set_cons_succ]; rfl) ?_
               | refine Fx.pure_ rfl rfl (fun _ => by go_simp; first | done | rfl) (by simp only [List.set_cons_zero, List.set_cons_succ]; rfl) ?_)
          | (with_reducible refine Fx.lab1 ?_
             refine Fx.look rfl rfl (fun w' hC => by obtain ⟨hc, hf, hl⟩ := Ext.cells hC; go_simp; rfl) (by simp only [List.set_cons_zero, List.set_cons_succ]; rfl) ?_)
      refine Fx.call1 (v := (mMsg (3 + (A2 : Int)) ((Q2 : Int) + 1)).val) (args := #[.int .i64 (3 + (A2 : Int)), .int .u32 ((Q2 : Int) + 1)]) rfl rfl (fun _ => by first | (go_simp; done) | (go_simp; rfl)) (fun w' hC => msg_at _ _ w') (by simp only [List.set_cons_zero, List.set_cons_succ]; rfl) ?_
      refine Fx.effBy (β := Value) (fun _ => .tuple #[(numX (qN 2 tM k) (mMsg (3 + (A2 : Int)) ((Q2 : Int) + 1))).val, .int .i64 0]) (fun u' w' => TwoQ w b mn u (qN 1 sM (k + 1)) b' mn' u' (qN 2 tM (k + 1)) w') ⟨undef⟩ (fun _ _ _ h k => h.ext k) rfl rfl (fun w' hC => ?_) (fun u' => ?_)
      · unfold stepAt
        rw [show (execOp _ _).run Try.prog w' = .ok (.enter 23 #[.pointer (some ⟨b', 0, none⟩), (mMsg (3 + (A2 : Int)) ((Q2 : Int) + 1)).val]) w' from by first | (go_simp; done) | (go_simp; rfl)]
        refine (num_at (HT3.out.p'.ext hC) HOt.out HLt.out _ Hrt.out).mono (fun e w'' hh => ?_)
        obtain ⟨u', rfl, h1, h2, h3⟩ := hh
        rw [← Htk.out] at h1
        exact ⟨_, rfl, u', rfl, ((HT3.out.ext hC).swap.step h1 h2 h3).swap⟩
      simp only [List.set_cons_zero, List.set_cons_succ]
      refine Fx.done (fun w4 hC => ?_)
      have HT4 := Lib.hid hC
      clear hC
      go_wp2
      go_roundw
      case rel => exact ⟨k + 1, u, u', by go_num, by omega, HT4⟩
      case measure => simp [intOf]; omega
    · have hkn : k = n := by omega
      subst hkn
      have hs := (qN_spec 1 sM sM_inj k).2.1
      have ht := (qN_spec 2 tM tM_inj k).2.1
      have Hs := Lib.hid hs
      have Ht := Lib.hid ht
      clear hs ht
      go_upto_region 8 with fail
      refine wp_region_line [(0,0),(1,3),(2,0),(3,3),(4,0),(5,0)] (by kernel_rfl) (by kernel_rfl) (Ext wr) (fun _ _ h k => h.trans k) (Ext.refl _) ?_
      first
        | refine Fx.skip rfl rfl (by simp only [List.set_cons_zero, List.set_cons_succ]; rfl) ?_
        | (with_reducible refine Fx.lab0 ?_
           first
             | refine Fx.moveT rfl rfl rfl (by simp only [List.set_cons_zero, List.set_cons_succ]; rfl) ?_
             | refine Fx.assignT rfl rfl rfl (by simp only [List.set_cons_zero, List.set_cons_succ]; rfl) ?_
             | refine Fx.pure_ rfl rfl (fun _ => by go_simp; first | done | rfl) (by simp only [List.set_cons_zero, List.set_cons_succ]; rfl) ?_)
        | (with_reducible refine Fx.lab1 ?_
           refine Fx.look rfl rfl (fun w' hC => by obtain ⟨hc, hf, hl⟩ := Ext.cells hC; go_simp; rfl) (by simp only [List.set_cons_zero, List.set_cons_succ]; rfl) ?_)
      refine Fx.eff (fun v w' => OwnNb w' v (srcL 1 sM k) ∧ Ext wr w') (fun v _ _ h k => ⟨h.1.ext k, h.2.trans k⟩) rfl rfl (fun w' hC => ?_) (fun v1 => ?_)
      · unfold stepAt
        rw [show (execOp _ _).run Try.prog w' = .ok (.enter 24 #[.pointer (some ⟨b, 0, none⟩)]) w' from by first | (go_simp; done) | (go_simp; rfl)]
        refine (all_at (hT.out.p.ext hC) (by rw [Hs.out, srcL_len]; omega)).mono (fun e w'' hh => ?_)
        obtain ⟨v, rfl, h1, h2, h3⟩ := hh
        rw [Hs.out] at h1
        exact ⟨v, rfl, h1, hC.trans h2⟩
      simp only [List.set_cons_zero, List.set_cons_succ]
      first
        | refine Fx.skip rfl rfl (by simp only [List.set_cons_zero, List.set_cons_succ]; rfl) ?_
        | (with_reducible refine Fx.lab0 ?_
           first
             | refine Fx.moveT rfl rfl rfl (by simp only [List.set_cons_zero, List.set_cons_succ]; rfl) ?_
             | refine Fx.assignT rfl rfl rfl (by simp only [List.set_cons_zero, List.set_cons_succ]; rfl) ?_
             | refine Fx.pure_ rfl rfl (fun _ => by go_simp; first | done | rfl) (by simp only [List.set_cons_zero, List.set_cons_succ]; rfl) ?_)
        | (with_reducible refine Fx.lab1 ?_
           refine Fx.look rfl rfl (fun w' hC => by obtain ⟨hc, hf, hl⟩ := Ext.cells hC; go_simp; rfl) (by simp only [List.set_cons_zero, List.set_cons_succ]; rfl) ?_)
      refine Fx.eff (fun v w' => OwnNb w' v (srcL 2 tM k) ∧ OwnNb w' v1 (srcL 1 sM k) ∧ Ext wr w') (fun v _ _ h k => ⟨h.1.ext k, h.2.1.ext k, h.2.2.trans k⟩) rfl rfl (fun w' hC => ?_) (fun v2 => ?_)
      · unfold stepAt
        rw [show (execOp _ _).run Try.prog w' = .ok (.enter 24 #[.pointer (some ⟨b', 0, none⟩)]) w' from by first | (go_simp; done) | (go_simp; rfl)]
        refine (all_at (hT.out.p'.ext hC.2) (by rw [Ht.out, srcL_len]; omega)).mono (fun e w'' hh => ?_)
        obtain ⟨v, rfl, h1, h2, h3⟩ := hh
        rw [Ht.out] at h1
        exact ⟨v, rfl, h1, hC.1.ext h2, hC.2.trans h2⟩
      simp only [List.set_cons_zero, List.set_cons_succ]
      iterate 2
        first
          | refine Fx.skip rfl rfl (by simp only [List.set_cons_zero, List.set_cons_succ]; rfl) ?_
          | (with_reducible refine Fx.lab0 ?_
             first
               | refine Fx.moveT rfl rfl rfl (by simp only [List.set_cons_zero, List.set_cons_succ]; rfl) ?_
               | refine Fx.assignT rfl rfl rfl (by simp only [List.set_cons_zero, List.set_cons_succ]; rfl) ?_
               | refine Fx.pure_ rfl rfl (fun _ => by go_simp; first | done | rfl) (by simp only [List.set_cons_zero, List.set_cons_succ]; rfl) ?_)
          | (with_reducible refine Fx.lab1 ?_
             refine Fx.look rfl rfl (fun w' hC => by obtain ⟨hc, hf, hl⟩ := Ext.cells hC; go_simp; rfl) (by simp only [List.set_cons_zero, List.set_cons_succ]; rfl) ?_)
      refine Fx.done (fun w3 hC => ?_)
      have HC := Lib.hid hC
      clear hC
      go_wp2
      go_ret2
      exact ⟨v1, v2, rfl, HC.out.2.1, HC.out.1, hT.out.e.trans HC.out.2.2⟩
end Go.Proofs.Ytokljdkeegdniaa
