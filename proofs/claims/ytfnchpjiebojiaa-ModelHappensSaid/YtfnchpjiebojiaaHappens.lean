/-
  rostrumlaw16.ModelHappens: the walk.
-/
import Derived.Test.YtfnchpjiebojiaaRefHap
import Derived.Test.YtfnchpjiebojiaaRepeats
import Derived.Test.YtfnchpjiebojiaaFlex3
namespace Go.Proofs.Ytfnchpjiebojiaa
open Go.RowKit
attribute [local go_sem] Oper.semAt_some

namespace Gx
section
variable {G : World → Prop} {P : Program} {ol : List Oper} {Q : Act → World → Prop} {i : Nat} {rest : List (Nat × Nat)} {C : World → Prop} {l l' : List Value} {D : List Deferred} {v u : Value}
  {d : Tmp} {p : Op} {t : TypeId} {s : String} {af : Array Edge} {g : Option (Nat × Bool)}
/-- A call that writes and yields one value; what it leaves is known up to some values. -/
theorem callB {β : Type} {f : Nat} {args : Array Value} (u : Value) (R : β → World → Prop) (hb : Nonempty β) (hg : ∀ v w, R v w → G w) (ho : nth ol i = some ⟨some d, p, t, s, af, g⟩) (hw : gd ol l g = true)
    (hr : ∀ w, (execOp (Act.mk l.toArray D).eval ⟨some d, p, t, s, af, g⟩).run P w = .ok (.enter f args) w)
    (hc : ∀ w, C w → Calls P f args w (fun e w' => e = .returned u ∧ ∃ b, R b w')) (ha : l.set d u = l')
    (h : ∀ v, wpQ G P ol.toArray Q rest (R v) ⟨l'.toArray, D⟩) : wpQ G P ol.toArray Q ((i, 4) :: rest) C ⟨l.toArray, D⟩ := by
  refine of_F ho ?_
  unfold wpE
  rw [if_pos (by rw [wanted_gd, hw])]
  refine ⟨β, fun _ => u, R, hb, hg, fun w hC => ?_, fun v => ?_⟩
  · unfold stepAt; rw [hr w]; exact (hc w hC).mono fun e w' ⟨he, b, hx⟩ => ⟨u, he, b, rfl, hx⟩
  · rw [put_lit, ha]; exact (h v).out
/-- A call that keeps the class and yields one value. -/
theorem callK {f : Nat} {args : Array Value} (u : Value) (ho : nth ol i = some ⟨some d, p, t, s, af, g⟩) (hw : gd ol l g = true)
    (hr : ∀ w, (execOp (Act.mk l.toArray D).eval ⟨some d, p, t, s, af, g⟩).run P w = .ok (.enter f args) w)
    (hc : ∀ w, C w → Calls P f args w (fun e w' => e = .returned u ∧ C w')) (ha : l.set d u = l')
    (h : wpQ G P ol.toArray Q rest (fun w => C w ∧ True) ⟨l'.toArray, D⟩) : wpQ G P ol.toArray Q ((i, 2) :: rest) C ⟨l.toArray, D⟩ :=
  keepV u (fun _ => True) ho hw (fun w hC => by unfold stepAt; rw [hr w]; exact (hc w hC).mono fun e w' ⟨he, hx⟩ => ⟨u, he, rfl, hx, trivial⟩) ha h
/-- A call that keeps the class and yields some value. -/
theorem callKv {f : Nat} {args : Array Value} (R : Value → World → Prop) (ho : nth ol i = some ⟨some d, p, t, s, af, g⟩) (hw : gd ol l g = true)
    (hr : ∀ w, (execOp (Act.mk l.toArray D).eval ⟨some d, p, t, s, af, g⟩).run P w = .ok (.enter f args) w)
    (hc : ∀ w, C w → Calls P f args w (fun e w' => ∃ v, e = .returned v ∧ C w' ∧ R v w'))
    (h : ∀ v, wpQ G P ol.toArray Q rest (fun w => C w ∧ R v w) ⟨(l.set d v).toArray, D⟩) : wpQ G P ol.toArray Q ((i, 2) :: rest) C ⟨l.toArray, D⟩ :=
  keep R ho hw (fun w hC => by unfold stepAt; rw [hr w]; exact (hc w hC).mono fun e w' ⟨v, he, hx⟩ => ⟨v, he, hx⟩) h
end
end Gx

structure HI (w1 : World) (b sb mb : Nat) (lv : Value) (rb db : Nat) (av lv2 : Value) (σ : MSt) (ρ : RSt) (w : World) : Prop where
  m : ModelAt w b sb mb lv σ
  r : RefAt w rb db av lv2 ρ
  fm : ∀ x, FM b sb mb lv x → w1.heap.size ≤ x ∧ ¬ FR rb db av lv2 x
  fr : ∀ x, FR rb db av lv2 x → w1.heap.size ≤ x
  e : Ext w1 w
theorem HI.ext' {w1 w w' : World} {b sb mb rb db : Nat} {lv av lv2 : Value} {σ : MSt} {ρ : RSt} (h : HI w1 b sb mb lv rb db av lv2 σ ρ w) (he : Ext w w') : HI w1 b sb mb lv rb db av lv2 σ ρ w' :=
  ⟨h.m.ext he, h.r.ext he, h.fm, h.fr, h.e.trans he⟩
theorem HI.hap {w1 w w' : World} {b sb mb rb db : Nat} {lv lv' av lv2 : Value} {σ σ' : MSt} {ρ : RSt} (h : HI w1 b sb mb lv rb db av lv2 σ ρ w) (hM : ModelAt w' b sb mb lv' σ') (hm : Mods (FM b sb mb lv) w w') (hl : ∀ y, lv'.ownBlock = some y → lv.ownBlock = some y ∨ w.heap.size ≤ y) : HI w1 b sb mb lv' rb db av lv2 σ' ρ w' := by
  refine ⟨hM, h.r.mods hm (fun x hx e => (h.fm x e).2 hx), fun x hx => ?_, h.fr, ((h.e.mods _).trans hm (fun _ _ h => h)).ext_of (fun x hx e => by have := (h.fm x e).1; omega)⟩
  rcases hx with hx | hx | hx | hx
  · exact h.fm x (.inl hx)
  · exact h.fm x (.inr (.inl hx))
  · exact h.fm x (.inr (.inr (.inl hx)))
  · rcases hl x hx with h' | h'
    · exact h.fm x (.inr (.inr (.inr h')))
    · have := h.e.size
      exact ⟨by omega, fun e => by have := h.r.lt e; omega⟩
theorem HI.ref {w1 w w' : World} {b sb mb rb db : Nat} {lv av av' lv2 lv2' : Value} {σ : MSt} {ρ ρ' : RSt} (h : HI w1 b sb mb lv rb db av lv2 σ ρ w) (hM : RefAt w' rb db av' lv2' ρ') (hm : Mods (FR rb db av lv2) w w') (ha : ∀ y, av'.ownBlock = some y → av.ownBlock = some y ∨ w.heap.size ≤ y) (hl : ∀ y, lv2'.ownBlock = some y → lv2.ownBlock = some y ∨ w.heap.size ≤ y) : HI w1 b sb mb lv rb db av' lv2' σ ρ' w' := by
  have hn : ∀ x, FR rb db av' lv2' x → FR rb db av lv2 x ∨ w.heap.size ≤ x := fun x hx => by
    rcases hx with hx | hx | hx | hx
    · exact .inl (.inl hx)
    · exact .inl (.inr (.inl hx))
    · exact (ha x hx).imp (fun h => .inr (.inr (.inl h))) id
    · exact (hl x hx).imp (fun h => .inr (.inr (.inr h))) id
  refine ⟨h.m.mods hm (fun x hx e => (h.fm x hx).2 e), hM, fun x hx => ⟨(h.fm x hx).1, fun e => ?_⟩, fun x hx => ?_, ((h.e.mods _).trans hm (fun _ _ h => h)).ext_of (fun x hx e => by have := h.fr x e; omega)⟩
  · rcases hn x e with h' | h'
    · exact (h.fm x hx).2 h'
    · have := h.m.lt hx; omega
  · rcases hn x hx with h' | h'
    · exact h.fr x h'
    · have := h.e.size; omega
theorem op_load_HpM {W : World} {S : Nat → Prop} {ρ : Operand → Value} {d : Option Tmp} {x : Operand} {t : TypeId} {s : String} {af : Array Edge} {g : Option (Nat × Bool)} {b o : Nat} {h : Hp} (hlt : b < W.heap.size) (hS : ¬ S b)
    (c0 : W.cell? ⟨b, o, none⟩ = some (.int .i64 h.k)) (c1 : W.cell? ⟨b, o + 1, none⟩ = some (.int .i64 h.n)) (c2 : W.cell? ⟨b, o + 2, none⟩ = some (.int .i64 h.m.f)) (c3 : W.cell? ⟨b, o + 3, none⟩ = some (.int .u32 h.m.c)) (c4 : W.cell? ⟨b, o + 4, none⟩ = some (.string h.m.d)) (hx : ρ x = .pointer (some ⟨b, o, none⟩)) (w : World) (hm : Mods S W w) :
    (execOp ρ ⟨d, .load 36 x, t, s, af, g⟩).run Try.prog w = .ok (.value h.val) w := by
  obtain ⟨hc, hf, hl⟩ := hm.cells
  exact op_load_Hp' (W := w) (hl _ hlt) ((hc _ _ hlt hS).trans c0) ((hc _ _ hlt hS).trans c1) ((hc _ _ hlt hS).trans c2) ((hc _ _ hlt hS).trans c3) ((hc _ _ hlt hS).trans c4) hx w (Ext.refl _)
theorem behind_rel {w : World} {b sb mb : Nat} {lv : Value} {σ : MSt} {ρ : RSt} (hM : ModelAt w b sb mb lv σ) (hR : Rel σ ρ) (hlen : σ.log.length ≤ 1000000) (n : Int) : Calls Try.prog 18 #[.pointer (some ⟨b, 0, none⟩), .int .i64 n] w fun e w' => e = .returned (.int .i64 (behV ρ n)) ∧ Ext w w' := by
  unfold behV
  rw [hR.n, hR.L, hR.D]
  by_cases h : 0 ≤ n ∧ n < σ.n
  · obtain ⟨nd, rfl⟩ : ∃ nd : Nat, n = nd := ⟨n.toNat, by omega⟩
    rw [if_pos h]
    have := behind_at hM hR.ok hlen nd (by omega)
    rw [Int.toNat_natCast]
    exact this
  · rw [if_neg h]
    refine (behind_not hM n h).mono ?_
    rintro e w' ⟨rfl, rfl⟩
    exact ⟨rfl, Ext.refl _⟩
theorem refT_len (ρ : RSt) (h : Hp) : (refT ρ h).A.length ≤ ρ.A.length + 1 ∧ (refT ρ h).L.length ≤ ρ.L.length + 1 := by
  unfold refT refS
  split
  · split
    · simp
    · split
      · simp only; split <;> simp
      · simp
  · simp

set_option maxRecDepth 100000 in
set_option maxHeartbeats 6400000 in
theorem happens_at (w : World) (n a : Int) (v : Value) (l : List Hp) (hl : HpL w v l) :
    Calls Try.prog 6 #[.int .i64 n, v, .int .i64 a] w (RepP w) := by
  have HL := Lib.hid hl
  obtain ⟨A, cap, rfl, hcap, hmax⟩ := hl.val
  clear hl hcap hmax
  go_enter Try.func6, Try.ntmps6
  go_upto_region 2 with (go_at_call 9; refine (shown_at _).mono ?_; rintro e w1 ⟨rfl, hE1⟩; have H1 := Lib.hid hE1; clear hE1)
  go_upto_region 3 with (go_at_call 10; refine (few_at _ _ l (HL.out.ext H1.out)).mono ?_; rintro e w2 ⟨fv, rfl, hown, hE2, hblk⟩; obtain ⟨fA, fcap, rfl, hfc⟩ := hown.val; have HF := Lib.hid hown; have H2 := Lib.hid hE2; have HB := Lib.hid hblk; clear hown hE2 hblk hfc)
  have hL100 : (fewL l).length ≤ 100 := by unfold fewL; rw [List.length_map]; exact List.length_take_le _ _
  have HL2 := Lib.hid (HF.out.sl Hp.len)
  have HE2 := Lib.hid (H1.out.trans H2.out)
  clear HF HB HL H1 H2
  generalize fewL l = L at *
  by_cases hn : 1 ≤ n ∧ n ≤ 16
  · obtain ⟨N, rfl⟩ : ∃ N : Nat, n = N := ⟨n.toNat, by omega⟩
    obtain ⟨hn1, hn16⟩ := hn
    go_upto_region 4 with (go_at_call 13; refine (new_yes _ N (by omega) (by omega)).mono ?_; rintro e w3 ⟨b, sb, mb, rfl, hM, hE3, hb, hsb, hmb⟩; have HM := Lib.hid hM; have H3 := Lib.hid hE3; have Hb := Lib.hid hb; have Hsb := Lib.hid hsb; have Hmb := Lib.hid hmb; clear hM hE3 hb hsb hmb)
    go_upto_region 5 with (go_at_call 15; refine (rnew_yes _ N (by omega) (by omega)).mono ?_; rintro e w4 ⟨rb, db, rfl, hR, hE4, hrb, hdb⟩; have HR := Lib.hid hR; have H4 := Lib.hid hE4; have Hrb := Lib.hid hrb; have Hdb := Lib.hid hdb; clear hR hE4 hrb hdb)
    have HI4 : Hid (HI w2 b sb mb (.slice none 0 0) rb db (.slice none 0 0) (.slice none 0 0) (st0 N) (ref0 N) w4) := Lib.hid (by
      have hs := H3.out.size
      have g1 := Hb.out; have g2 := Hsb.out; have g3 := Hmb.out; have g4 := Hrb.out; have g5 := Hdb.out
      have nr : ∀ x, FR rb db (.slice none 0 0) (.slice none 0 0) x → x = rb ∨ x = db := fun x hx => by
        rcases hx with h | h | h | h
        · exact .inl h
        · exact .inr h
        · simp [Value.ownBlock] at h
        · simp [Value.ownBlock] at h
      refine ⟨HM.out.ext H4.out, HR.out, fun x hx => ?_, fun x hx => ?_, H3.out.trans H4.out⟩
      · have hx3 := HM.out.lt hx
        refine ⟨?_, fun e => ?_⟩
        · rcases hx with h | h | h | h
          · omega
          · omega
          · omega
          · simp [Value.ownBlock] at h
        · rcases nr x e with h | h <;> omega
      · rcases nr x hx with h | h <;> omega)
    clear HM H3 Hb Hsb Hmb HR H4 Hrb Hdb
    go_wp2
    go_loopw [12] (fun q wr => ∃ (k : Nat) (lv av lv2 : Value) (σ : MSt) (ρ : RSt), k ≤ L.length ∧ q = .int .i64 k ∧ Hid (Rel σ ρ) ∧ ρ.A.length ≤ k ∧ ρ.L.length ≤ k ∧ Hid (HI w2 b sb mb lv rb db av lv2 σ ρ wr)) (fun q _ => L.length - (intOf q).toNat)
    case atStart => exact ⟨0, _, _, _, _, _, Nat.zero_le _, rfl, Lib.hid (rel0 (by omega) (by omega)), Nat.le_refl _, Nat.le_refl _, HI4⟩
    case round =>
      obtain ⟨k, lv, av, lv2, σ, ρ, hk, rfl, hRel, hA, hLn, hI⟩ := hrel
      by_cases hlt : k < L.length
      · obtain ⟨g, go, he, hgl2, d0, d1, d2, d3, d4⟩ := Sl.at5 HL2.out hlt
        injection he with e1 _ _
        subst e1
        have hwk : IntKind.i64.wrap ((k : Int) + 1) = (k : Int) + 1 := IntWalk.i64_in _ ⟨by omega, by omega⟩
        obtain ⟨h, hh⟩ : ∃ h, L[k] = h := ⟨_, rfl⟩
        rw [hh] at d0 d1 d2 d3 d4
        obtain ⟨xc, xf, xl⟩ := hI.out.e.cells
        replace d0 := (xc _ _ hgl2).trans d0
        replace d1 := (xc _ _ hgl2).trans d1
        replace d2 := (xc _ _ hgl2).trans d2
        replace d3 := (xc _ _ hgl2).trans d3
        replace d4 := (xc _ _ hgl2).trans d4
        have hgl := xl _ hgl2
        have hgS : ¬ (FM b sb mb lv g ∨ FR rb db av lv2 g) := by
          rintro (e | e)
          · have := (hI.out.fm _ e).1; omega
          · have := hI.out.fr _ e; omega
        clear xc xf xl hh hgl2
        obtain ⟨c, hc⟩ : ∃ c : Int, (if hapB σ h = true then 0 else 160) = c := ⟨_, rfl⟩
        have hc2 : (if refB ρ h = true then 0 else 160) = c := by rw [rel_B hRel.out]; exact hc
        have Hc := Lib.hid hc
        have Hc2 := Lib.hid hc2
        have hlog : σ.log.length ≤ 1000 := by rw [← hRel.out.L]; omega
        have hlen := refT_len ρ h
        have HRel' := Lib.hid (rel_T hRel.out h)
        obtain ⟨σ', hσ'⟩ : ∃ σ', hapT σ h = σ' := ⟨_, rfl⟩
        obtain ⟨ρ', hρ'⟩ : ∃ ρ', refT ρ h = ρ' := ⟨_, rfl⟩
        rw [hσ', hρ'] at HRel'
        rw [hρ'] at hlen
        have Hσ := Lib.hid hσ'
        have Hρ := Lib.hid hρ'
        obtain ⟨bv, hbv⟩ : ∃ bv, behV ρ' a = bv := ⟨_, rfl⟩
        have Hbv := Lib.hid hbv
        obtain ⟨hlen1, hlen2⟩ := hlen
        have hA2 : ρ'.A.length ≤ k + 1 := by omega
        have hL2 : ρ'.L.length ≤ k + 1 := by omega
        have Hk := Lib.hid (show ρ'.L.length ≤ 1000 ∧ ρ.A.length ≤ 1000 ∧ ρ.L.length ≤ 1000 by omega)
        clear hc hc2 hσ' hρ' hbv hlen1 hlen2 hA hLn
        go_upto_region 10 with fail
        refine wp_region_planC [(0,0),(1,0),(2,0),(3,0),(4,1),(6,0),(7,0),(8,0),(9,0),(10,3),(5,4),(11,4),(12,0),(13,0),(14,0),(16,0),(17,0),(18,0),(19,1),(15,2),(20,2),(21,0),(22,0),(23,0),(24,0),(25,0),(26,2),(27,0),(28,0),(29,2),(30,0),(31,0)] (by kernel_rfl) (by kernel_rfl) (by kernel_rfl) (G := fun w' => Mods (fun x => FM b sb mb lv x ∨ FR rb db av lv2 x) wr w') (Ext wr) (fun w' h => h.mods _) (Ext.drawn _ _) ?_
        iterate 4
          first
            | refine Gx.skip rfl rfl (by simp only [List.set_cons_zero, List.set_cons_succ]; rfl) ?_
            | (with_reducible refine Gx.lab0 ?_
               first
                 | refine Gx.moveT rfl rfl rfl (by simp only [List.set_cons_zero, List.set_cons_succ]; rfl) ?_
                 | refine Gx.assignT rfl rfl rfl (by simp only [List.set_cons_zero, List.set_cons_succ]; rfl) ?_
                 | refine Gx.pure_ rfl rfl (fun _ => by go_simp; first | done | rfl) (by simp only [List.set_cons_zero, List.set_cons_succ]; rfl) ?_)
        refine Gx.look rfl rfl (op_load_Hp' (h := h) hgl d0 d1 d2 d3 d4 rfl) (by simp only [List.set_cons_zero, List.set_cons_succ]; rfl) ?_
        iterate 4
          first
            | refine Gx.skip rfl rfl (by simp only [List.set_cons_zero, List.set_cons_succ]; rfl) ?_
            | (with_reducible refine Gx.lab0 ?_
               first
                 | refine Gx.moveT rfl rfl rfl (by simp only [List.set_cons_zero, List.set_cons_succ]; rfl) ?_
                 | refine Gx.assignT rfl rfl rfl (by simp only [List.set_cons_zero, List.set_cons_succ]; rfl) ?_
                 | refine Gx.pure_ rfl rfl (fun _ => by go_simp; first | done | rfl) (by simp only [List.set_cons_zero, List.set_cons_succ]; rfl) ?_)
        refine Gx.lookG rfl rfl (op_load_HpM (h := h) hgl hgS d0 d1 d2 d3 d4 rfl) (by simp only [List.set_cons_zero, List.set_cons_succ]; rfl) ?_
        refine Gx.callB (.int .i64 c) (fun (lv' : Value) w' => HI w2 b sb mb lv' rb db av lv2 σ' ρ w' ∧ Mods (FM b sb mb lv) wr w' ∧ (∀ y, lv'.ownBlock = some y → lv.ownBlock = some y ∨ wr.heap.size ≤ y)) ⟨undef⟩ (fun _ _ hR => hR.2.1.mono (fun _ _ h => .inl h))
          (args := #[.pointer (some ⟨b, 0, none⟩), h.val]) rfl rfl (fun _ => by first | (go_simp; done) | (go_simp; rfl)) (fun w' hC => (happen_at b sb mb lv σ h w' (hI.out.m.ext hC) hRel.out.ok (by omega)).mono (fun e w'' hh => ?_)) (by simp only [List.set_cons_zero, List.set_cons_succ]; rfl) (fun lv' => ?_)
        · obtain ⟨h1, lv', h2, h3, h4⟩ := hh
          rw [Hc.out] at h1
          rw [Hσ.out] at h2
          exact ⟨h1, lv', (hI.out.ext' hC).hap h2 h3 h4, h3.after hC, fun y hy => (h4 y hy).imp id (fun h => Nat.le_trans hC.size h)⟩
        refine Gx.callB (.int .i64 c) (fun (p : Value × Value × Value) w' => HI w2 b sb mb p.1 rb db p.2.1 p.2.2 σ' ρ' w' ∧ Mods (fun x => FM b sb mb lv x ∨ FR rb db av lv2 x) wr w') ⟨(undef, undef, undef)⟩ (fun _ _ hR => hR.2)
          (args := #[.pointer (some ⟨rb, 0, none⟩), h.val]) rfl rfl (fun _ => by first | (go_simp; done) | (go_simp; rfl)) (fun w' hC => (rhap_at hC.1.r (fun i => by rw [hRel.out.D, hRel.out.L]; exact hRel.out.ok.del i) (by have := Hk.out; omega) (by have := Hk.out; omega) (by rw [hRel.out.n]; exact hRel.out.ok.n16) h).mono (fun e w'' hh => ?_)) (by simp only [List.set_cons_zero, List.set_cons_succ]; rfl) (fun p => ?_)
        · obtain ⟨h1, av', lv2', h2, h3, h4, h5⟩ := hh
          rw [Hc2.out] at h1
          rw [Hρ.out] at h2
          exact ⟨h1, (lv', av', lv2'), hC.1.ref h2 h3 h4 h5, (hC.2.1.mono (T := fun x => FM b sb mb lv x ∨ FR rb db av lv2 x) (fun _ _ h => .inl h)).trans h3 (fun _ _ h => .inr h)⟩
        clear d0 d1 d2 d3 d4 hgS
        obtain ⟨lv', av', lv2'⟩ := p
        have Hrb : ∀ w', (HI w2 b sb mb lv' rb db av' lv2' σ' ρ' w' ∧ Mods (fun x => FM b sb mb lv x ∨ FR rb db av lv2 x) wr w') → w'.cell? ⟨rb, 1, none⟩ = some lv2' ∧ rb < w'.heap.size := fun w' hC => ⟨by
          have c1 := hC.1.r.obj.cell 1 (by decide)
          simpa only [rF, List.getD_cons_zero, List.getD_cons_succ] using c1, hC.1.r.obj.lt⟩
        have HRB := Lib.hid Hrb
        clear Hrb
        iterate 6
          first
            | refine Gx.skip rfl rfl (by simp only [List.set_cons_zero, List.set_cons_succ]; rfl) ?_
            | (with_reducible refine Gx.lab0 ?_
               first
                 | refine Gx.moveT rfl rfl rfl (by simp only [List.set_cons_zero, List.set_cons_succ]; rfl) ?_
                 | refine Gx.assignT rfl rfl rfl (by simp only [List.set_cons_zero, List.set_cons_succ]; rfl) ?_
                 | refine Gx.pure_ rfl rfl (fun _ => by go_simp; first | done | rfl) (by simp only [List.set_cons_zero, List.set_cons_succ]; rfl) ?_)
        refine Gx.look (v := lv2') rfl rfl (fun w' hC => by
          obtain ⟨e1, e2⟩ := HRB.out w' hC
          obtain ⟨A, n, vv⟩ : ∃ A n cap, lv2' = .slice A n cap := by obtain ⟨A, cap, e, _⟩ := hC.1.r.l.val; exact ⟨_, _, _, e⟩
          obtain ⟨cap, rfl⟩ := vv
          clear hC
          first | (go_simp; done) | (go_simp; rfl)) (by simp only [List.set_cons_zero, List.set_cons_succ]; rfl) ?_
        refine Gx.callKv (args := #[.pointer (some ⟨b, 0, none⟩)]) (fun v w' => MsL w' v σ'.log) rfl rfl (fun _ => by first | (go_simp; done) | (go_simp; rfl)) (fun w' hC => (log_at hC.1.m (by have := Hk.out; rw [← HRel'.out.L]; omega)).mono (fun e w'' hh => ?_)) (fun vl => ?_)
        · obtain ⟨v', h1, h2, h3, -⟩ := hh
          exact ⟨v', h1, ⟨hC.1.ext' h3, hC.2.then_ h3⟩, h2.sl Ms.len⟩
        simp only [List.set_cons_zero, List.set_cons_succ]
        refine Gx.callK (.bool true) (args := #[vl, lv2']) rfl rfl (fun _ => by first | (go_simp; done) | (go_simp; rfl)) (fun w' hC => (same_ref vl lv2' σ'.log ρ'.L w' hC.2 (hC.1.1.r.l.sl Ms.len) (by have := Hk.out; rw [← HRel'.out.L]; omega)).mono (fun e w'' hh => ?_)) (by simp only [List.set_cons_zero, List.set_cons_succ]; rfl) ?_
        · obtain ⟨h1, h3⟩ := hh
          rw [HRel'.out.L] at h1
          unfold sameB at h1
          rw [decide_eq_true rfl] at h1
          exact ⟨h1, ⟨hC.1.1.ext' h3, hC.1.2.then_ h3⟩, hC.2.ext h3⟩
        iterate 5
          first
            | refine Gx.skip rfl rfl (by simp only [List.set_cons_zero, List.set_cons_succ]; rfl) ?_
            | (with_reducible refine Gx.lab0 ?_
               first
                 | refine Gx.moveT rfl rfl rfl (by simp only [List.set_cons_zero, List.set_cons_succ]; rfl) ?_
                 | refine Gx.assignT rfl rfl rfl (by simp only [List.set_cons_zero, List.set_cons_succ]; rfl) ?_
                 | refine Gx.pure_ rfl rfl (fun _ => by go_simp; first | done | rfl) (by simp only [List.set_cons_zero, List.set_cons_succ]; rfl) ?_)
        refine Gx.callK (.int .i64 bv) (args := #[.pointer (some ⟨b, 0, none⟩), .int .i64 a]) rfl rfl (fun _ => by first | (go_simp; done) | (go_simp; rfl)) (fun w' hC => (behind_rel hC.1.1.1.m HRel'.out (by have := Hk.out; rw [← HRel'.out.L]; omega) a).mono (fun e w'' hh => ?_)) (by simp only [List.set_cons_zero, List.set_cons_succ]; rfl) ?_
        · obtain ⟨h1, h3⟩ := hh
          rw [Hbv.out] at h1
          exact ⟨h1, ⟨⟨hC.1.1.1.ext' h3, hC.1.1.2.then_ h3⟩, hC.1.2.ext h3⟩, trivial⟩
        iterate 2
          first
            | refine Gx.skip rfl rfl (by simp only [List.set_cons_zero, List.set_cons_succ]; rfl) ?_
            | (with_reducible refine Gx.lab0 ?_
               first
                 | refine Gx.moveT rfl rfl rfl (by simp only [List.set_cons_zero, List.set_cons_succ]; rfl) ?_
                 | refine Gx.assignT rfl rfl rfl (by simp only [List.set_cons_zero, List.set_cons_succ]; rfl) ?_
                 | refine Gx.pure_ rfl rfl (fun _ => by go_simp; first | done | rfl) (by simp only [List.set_cons_zero, List.set_cons_succ]; rfl) ?_)
        refine Gx.callK (.int .i64 bv) (args := #[.pointer (some ⟨rb, 0, none⟩), .int .i64 a]) rfl rfl (fun _ => by first | (go_simp; done) | (go_simp; rfl)) (fun w' hC => (rbehind_at hC.1.1.1.1.r (fun i => by rw [HRel'.out.D, HRel'.out.L]; exact HRel'.out.ok.del i) (by have := Hk.out; omega) (by rw [HRel'.out.n]; exact HRel'.out.ok.n16) a).mono (fun e w'' hh => ?_)) (by simp only [List.set_cons_zero, List.set_cons_succ]; rfl) ?_
        · obtain ⟨h1, h3⟩ := hh
          rw [Hbv.out] at h1
          exact ⟨h1, ⟨⟨⟨hC.1.1.1.1.ext' h3, hC.1.1.1.2.then_ h3⟩, hC.1.1.2.ext h3⟩, trivial⟩, trivial⟩
        iterate 2
          first
            | refine Gx.skip rfl rfl (by simp only [List.set_cons_zero, List.set_cons_succ]; rfl) ?_
            | (with_reducible refine Gx.lab0 ?_
               first
                 | refine Gx.moveT rfl rfl rfl (by simp only [List.set_cons_zero, List.set_cons_succ]; rfl) ?_
                 | refine Gx.assignT rfl rfl rfl (by simp only [List.set_cons_zero, List.set_cons_succ]; rfl) ?_
                 | refine Gx.pure_ rfl rfl (fun _ => by go_simp; first | done | rfl) (by simp only [List.set_cons_zero, List.set_cons_succ]; rfl) ?_)
        refine Gx.done (fun w9 hC => ?_)
        have HI9 := Lib.hid hC.1.1.1.1.1
        clear hC
        go_wp2
        go_roundw
        case rel => exact ⟨k + 1, lv', av', lv2', σ', ρ', by omega, by go_num, HRel', hA2, hL2, HI9⟩
        case measure => simp [intOf]; omega
      · have hkl : k = L.length := by omega
        subst hkl
        clear hlt
        go_wp2
        go_ret
        exact ⟨rfl, HE2.out.trans hI.out.e⟩
  · have Hn := Lib.hid hn
    clear hn
    go_upto_region 4 with (go_at_call 13; refine (new_no _ n Hn.out).mono ?_; rintro e w3 ⟨rfl, rfl⟩)
    go_upto_region 5 with (go_at_call 15; refine (rnew_no _ n Hn.out).mono ?_; rintro e w3 ⟨rfl, rfl⟩)
    go_wp2
    go_ret
    exact ⟨rfl, HE2.out⟩
end Go.Proofs.Ytfnchpjiebojiaa
