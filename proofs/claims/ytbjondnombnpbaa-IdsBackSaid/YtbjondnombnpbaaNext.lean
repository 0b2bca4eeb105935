/-
  rostrumlaw10.IdsNext: what it computes.
-/
import Derived.Test.YtbjondnombnpbaaShownB
import Derived.Test.YtbjondnombnpbaaCut
import Derived.Test.YtbjondnombnpbaaPlainB3
namespace Go.Proofs.Ytbjondnombnpbaa
open Go.RowKit
attribute [local go_sem] Oper.semAt_some

def LawP (w : World) (e : Ending) (w' : World) : Prop := e = .returned (.bool true) ∧ Ext w w'
/-- A book of the call's own between two takes. -/
structure BookI (w2 : World) (b mb : Nat) (lv : Value) (σ : BSt) (w : World) : Prop where
  bk : BookAt w b mb lv σ
  fr : ∀ x, FB b mb lv x → w2.heap.size ≤ x
  ext : Ext w2 w
theorem BookI.ext' {w2 w w' : World} {b mb : Nat} {lv : Value} {σ : BSt} (h : BookI w2 b mb lv σ w) (he : Ext w w') : BookI w2 b mb lv σ w' := ⟨h.bk.ext he, h.fr, h.ext.trans he⟩
theorem BookI.take {w2 w w' : World} {b mb : Nat} {lv lv' : Value} {σ σ' : BSt} (h : BookI w2 b mb lv σ w) (hb : BookAt w' b mb lv' σ') (hm : Mods (FB b mb lv) w w') (hl : ∀ y, lv'.ownBlock = some y → lv.ownBlock = some y ∨ w.heap.size ≤ y) : BookI w2 b mb lv' σ' w' := by
  refine ⟨hb, fun x hx => ?_, ((h.ext.mods _).trans hm (fun _ _ h => h)).ext_of (fun x hx e => by have := h.fr x e; omega)⟩
  rcases hx with hx | hx | hx
  · exact h.fr x (.inl hx)
  · exact h.fr x (.inr (.inl hx))
  · rcases hl x hx with h' | h'
    · exact h.fr x (.inr (.inr h'))
    · have := h.ext.size; omega
/-- A call of Take whose answer nobody reads, within a region. -/
theorem stepAt_take {a : Act} {d : Option Tmp} {p : Op} {t : TypeId} {s : String} {af : Array Edge} {g : Option (Nat × Bool)} {w2 wr w : World} {b mb : Nat} {lv : Value} {σ : BSt} (hI : BookI w2 b mb lv σ wr) (hO : σ.Ok) (hlen : σ.log.length + σ.wt.length ≤ 1000000) (m : Ms) (hC : Ext wr w)
    (hr : (execOp a.eval ⟨d, p, t, s, af, g⟩).run Try.prog w = .ok (.enter 13 #[.pointer (some ⟨b, 0, none⟩), m.val]) w) :
    stepAt Try.prog ⟨d, p, t, s, af, g⟩ a w (fun _ w' => ∃ lv', BookI w2 b mb lv' (takeS σ m) w' ∧ Mods (FB b mb lv) wr w') := by
  unfold stepAt
  rw [hr]
  exact (take_at (hI.bk.ext hC) hO hlen m).mono (fun e w3 hh => by
    obtain ⟨nv, lv', h1, h2, h3, h4, h5, h6⟩ := hh
    exact ⟨_, h1, lv', (hI.ext' hC).take h2 h4 h5, h4.after hC⟩)

set_option maxRecDepth 100000 in
set_option maxHeartbeats 3200000 in
theorem next_law (w : World) (v : Value) (l : List Ms) (f : Int) (hl : MsL w v l) :
    Calls Try.prog 3 #[v, .int .i64 f] w (LawP w) := by
  have HL := Lib.hid hl
  obtain ⟨A, cap, rfl, hcap, hmax⟩ := hl.val
  clear hl hcap hmax
  go_enter Try.func3, Try.ntmps3
  go_upto_region 2 with (go_at_call 10; refine (shown_at _).mono ?_; rintro e w1 ⟨rfl, hE1⟩; have H1 := Lib.hid hE1; clear hE1)
  go_upto_region 3 with (go_at_call 11; refine (cut_at _ _ l (HL.out.ext H1.out)).mono ?_; rintro e w2 ⟨fv, rfl, hown, hE2, hblk⟩; obtain ⟨fA, fcap, rfl, hfc⟩ := hown.val; have HF := Lib.hid hown; have H2 := Lib.hid hE2; clear hown hE2 hblk hfc)
  have hL80 : (cutL l).length ≤ 80 := cutL_len l
  have HL2 := Lib.hid (HF.out.sl Ms.len)
  have HE2 := Lib.hid (H1.out.trans H2.out)
  clear HF HL H1 H2
  generalize cutL l = L at *
  by_cases hf : 0 ≤ f ∧ f < 16
  · obtain ⟨hf0, hf1⟩ := hf
    have t1 : decide (f < 0) = false := by simp; omega
    have t2 : decide (15 < f) = false := by simp; omega
    go_upto_region 6 with (go_at_call 12; refine (new_at _).mono ?_; rintro e w3 ⟨b, mb, rfl, hM, hE, hb, hmb⟩; have HM := Lib.hid hM; have HE := Lib.hid hE; have Hb := Lib.hid hb; have Hmb := Lib.hid hmb; clear hM hE hb hmb)
    clear t1 t2
    have HI3 : Hid (BookI w2 b mb (.slice none 0 0) b0 w3) := Lib.hid ⟨HM.out, fun x hx => by
      rcases hx with h | h | h
      · have := Hb.out; omega
      · have := Hmb.out; omega
      · simp [Value.ownBlock] at h, HE.out⟩
    clear HM HE Hb Hmb
    go_wp2
    go_loopw [7] (fun q wr => ∃ (k : Nat) (lv : Value), k ≤ L.length ∧ q = .int .i64 k ∧ Hid (BookI w2 b mb lv (stB L k) wr)) (fun q _ => L.length - (intOf q).toNat)
    case atStart => exact ⟨0, _, Nat.zero_le _, rfl, by rw [stB_zero]; exact HI3⟩
    case round =>
      obtain ⟨k, lv, hk, rfl, hI⟩ := hrel
      by_cases hlt : k < L.length
      · obtain ⟨jb, joff, rfl, hjbl, j0, j1, j2⟩ := Sl.at3 (HL2.out.ext hI.out.ext) hlt
        have hst := stB_succ L hlt
        obtain ⟨hq, hln⟩ := stB_q L k
        generalize L[k] = m at *
        obtain ⟨σ, hσ⟩ : ∃ σ, stB L k = σ := ⟨_, rfl⟩
        rw [hσ] at hI hst hq hln
        have Hst := Lib.hid hst
        have Hq := Lib.hid hq
        have Hln := Lib.hid hln
        have hwk : IntKind.i64.wrap ((k : Int) + 1) = (k : Int) + 1 := IntWalk.i64_in _ ⟨by omega, by omega⟩
        clear hσ hst hq hln
        go_upto_region 9 with fail
        refine wp_region_line [(0,0),(1,0),(2,0),(3,0),(4,1),(5,3)] (by kernel_rfl) (by kernel_rfl) (Ext wr) (fun _ _ h k => h.trans k) (Ext.refl _) ?_
        iterate 4
          first
            | refine Fx.skip rfl rfl (by simp only [List.set_cons_zero, List.set_cons_succ]; rfl) ?_
            | (with_reducible refine Fx.lab0 ?_
               first
                 | refine Fx.moveT rfl rfl rfl (by simp only [List.set_cons_zero, List.set_cons_succ]; rfl) ?_
                 | refine Fx.assignT rfl rfl rfl (by simp only [List.set_cons_zero, List.set_cons_succ]; rfl) ?_
                 | refine Fx.pure_ rfl rfl (fun _ => by go_simp; first | done | rfl) (by simp only [List.set_cons_zero, List.set_cons_succ]; rfl) ?_)
            | (with_reducible refine Fx.lab1 ?_
               refine Fx.look rfl rfl (fun w' hC => by obtain ⟨hc, hf, hl⟩ := Ext.cells hC; go_simp; rfl) (by simp only [List.set_cons_zero, List.set_cons_succ]; rfl) ?_)
        refine Fx.look rfl rfl (op_load_Ms' (m := m) hjbl j0 j1 j2 rfl) (by simp only [List.set_cons_zero, List.set_cons_succ]; rfl) ?_
        refine Fx.eff (fun _ w' => ∃ lv', BookI w2 b mb lv' (takeS σ m) w' ∧ Mods (FB b mb lv) wr w') (fun _ _ _ h k => let ⟨lv', h1, h2⟩ := h; ⟨lv', h1.ext' k, h2.then_ k⟩) rfl rfl (fun w' hC => stepAt_take hI.out Hq.out.ok (by have := Hln.out; omega) m hC (by first | (go_simp; done) | (go_simp; rfl))) (fun u => ?_)
        simp only [List.set_cons_zero, List.set_cons_succ]
        refine Fx.done (fun w4 hC => ?_)
        obtain ⟨lv', hI4, -⟩ := hC
        have HI4 := Lib.hid hI4
        clear hI4 j0 j1 j2
        go_wp2
        go_roundw
        case rel => exact ⟨k + 1, lv', by omega, by go_num, by rw [Hst.out]; exact HI4⟩
        case measure => simp [intOf]; omega
      · obtain ⟨hq, hln⟩ := stB_q L k
        obtain ⟨σ, hσ⟩ : ∃ σ, stB L k = σ := ⟨_, rfl⟩
        rw [hσ] at hI hq hln
        have Hq := Lib.hid hq
        have hloglen : σ.log.length ≤ 80 := by omega
        have HLL := Lib.hid hloglen
        clear hσ hq hln
        go_upto_region 12 with (go_at_call 14; refine (log_at hI.out.bk (by have := HLL.out; omega)).mono ?_; rintro e w5 ⟨gv, rfl, hg, hE5, hgf⟩; obtain ⟨gA, gcap, rfl, hgc⟩ := hg.val; have HG := Lib.hid (hg.sl Ms.len); have HE5 := Lib.hid hE5; clear hg hE5 hgf hgc)
        have HI5 := Lib.hid (hI.out.ext' HE5.out)
        obtain ⟨G, hG⟩ : ∃ G, σ.log = G := ⟨_, rfl⟩
        rw [hG] at HG hloglen ⊢
        have HGe := Lib.hid hG
        clear hG hI HE5 hlt hk
        go_wp2
        generalize wr = wA at *
        go_loopw [8, 10] (fun q r wx => ∃ (k : Nat), q = .int .u32 (1 + (countF (G.take k) f : Int)) ∧ r = .int .i64 k ∧ k ≤ G.length ∧ Hid (Ext w5 wx)) (fun _ r _ => G.length - (intOf r).toNat)
        case atStart => exact ⟨0, by simp [countF], rfl, Nat.zero_le _, Lib.hid (Ext.refl _)⟩
        case round =>
          obtain ⟨k, rfl, rfl, hk, hEx⟩ := hrel
          by_cases hlt : k < G.length
          · obtain ⟨jb, joff, rfl, hjbl, j0, j1, j2⟩ := Sl.at3 (HG.out.ext hEx.out) hlt
            have hs := countF_snoc (G.take k) G[k] f
            rw [← take_snoc' G k hlt] at hs
            have hcl := countF_le (G.take k) f
            have hcl2 : countF (G.take k) f ≤ 80 := by rw [List.length_take] at hcl; omega
            generalize G[k] = m at *
            obtain ⟨c, hc⟩ : ∃ c, countF (G.take k) f = c := ⟨_, rfl⟩
            rw [hc] at hs hcl2 ⊢
            have Hs := Lib.hid hs
            have hwk : IntKind.i64.wrap ((k : Int) + 1) = (k : Int) + 1 := IntWalk.i64_in _ ⟨by omega, by omega⟩
            have hwc : IntKind.u32.wrap (1 + (c : Int) + 1) = 1 + (c : Int) + 1 := IntWalk.u32_in _ ⟨by omega, by omega⟩
            clear hs hcl hc
            by_cases hmf : m.f = f
            · have hmb : (m.f == f) = true := by simp [hmf]
              clear hmf
              have Hmb := Lib.hid hmb
              go_wp2
              go_roundw
              case rel => exact ⟨k + 1, by rw [Hs.out, if_pos Hmb.out]; push_cast; rw [Int.add_assoc], by go_num, by omega, hEx⟩
              case measure => simp [intOf]; omega
            · have hmb : (m.f == f) = false := by simp [hmf]
              clear hmf
              have Hmb := Lib.hid hmb
              go_wp2
              go_roundw
              case rel => exact ⟨k + 1, by rw [Hs.out, if_neg (by rw [Hmb.out]; simp)]; rfl, by go_num, by omega, hEx⟩
              case measure => simp [intOf]; omega
          · have hkG : k = G.length := by omega
            have hp := next_plain Hq.out f hf0 hf1
            rw [HGe.out] at hp
            have hct : countF (G.take k) f = countF G f := by rw [hkG, List.take_length]
            rw [hct]
            obtain ⟨c, hc⟩ : ∃ c : Int, 1 + (countF G f : Int) = c := ⟨_, rfl⟩
            rw [hc] at hp ⊢
            have HP := Lib.hid hp
            have HI6 := Lib.hid (HI5.out.ext' hEx.out)
            clear hc hct hp
            go_upto_region 17 with fail
            refine wp_region_line [(0,0),(1,0),(2,0),(3,0),(4,1),(5,0),(6,0),(7,0),(8,0),(9,0),(10,0),(11,0),(12,0),(13,1),(14,0),(15,0),(16,0)] (by kernel_rfl) (by kernel_rfl) (Ext wr) (fun _ _ h k => h.trans k) (Ext.refl _) ?_
            iterate 4
              first
                | refine Fx.skip rfl rfl (by simp only [List.set_cons_zero, List.set_cons_succ]; rfl) ?_
                | (with_reducible refine Fx.lab0 ?_
                   first
                     | refine Fx.moveT rfl rfl rfl (by simp only [List.set_cons_zero, List.set_cons_succ]; rfl) ?_
                     | refine Fx.assignT rfl rfl rfl (by simp only [List.set_cons_zero, List.set_cons_succ]; rfl) ?_
                     | refine Fx.pure_ rfl rfl (fun _ => by go_simp; first | done | rfl) (by simp only [List.set_cons_zero, List.set_cons_succ]; rfl) ?_)
                | (with_reducible refine Fx.lab1 ?_
                   refine Fx.look rfl rfl (fun w' hC => by obtain ⟨hc, hf, hl⟩ := Ext.cells hC; go_simp; rfl) (by simp only [List.set_cons_zero, List.set_cons_succ]; rfl) ?_)
            refine Fx.call1 (v := .int .u32 c) (args := #[.pointer (some ⟨b, 0, none⟩), .int .i64 f]) rfl rfl (fun _ => by first | (go_simp; done) | (go_simp; rfl)) (fun w' hC => (next_at (HI6.out.bk.ext hC) Hq.out.ok f).mono (fun e w'' hh => by rw [HP.out.1] at hh; exact ⟨hh.1, by rw [hh.2]; exact Ext.refl _⟩)) (by simp only [List.set_cons_zero, List.set_cons_succ]; rfl) ?_
            iterate 8
              first
                | refine Fx.skip rfl rfl (by simp only [List.set_cons_zero, List.set_cons_succ]; rfl) ?_
                | (with_reducible refine Fx.lab0 ?_
                   first
                     | refine Fx.moveT rfl rfl rfl (by simp only [List.set_cons_zero, List.set_cons_succ]; rfl) ?_
                     | refine Fx.assignT rfl rfl rfl (by simp only [List.set_cons_zero, List.set_cons_succ]; rfl) ?_
                     | refine Fx.pure_ rfl rfl (fun _ => by go_simp; first | done | rfl) (by simp only [List.set_cons_zero, List.set_cons_succ]; rfl) ?_)
                | (with_reducible refine Fx.lab1 ?_
                   refine Fx.look rfl rfl (fun w' hC => by obtain ⟨hc, hf, hl⟩ := Ext.cells hC; go_simp; rfl) (by simp only [List.set_cons_zero, List.set_cons_succ]; rfl) ?_)
            refine Fx.call1 (v := .bool false) (args := #[.pointer (some ⟨b, 0, none⟩), .agg #[.int .i64 f, .int .u32 c]]) rfl rfl (fun _ => by first | (go_simp; done) | (go_simp; rfl)) (fun w' hC => (has_at (HI6.out.bk.ext hC) Hq.out.ok f c).mono (fun e w'' hh => by rw [HP.out.2] at hh; exact hh)) (by simp only [List.set_cons_zero, List.set_cons_succ]; rfl) ?_
            iterate 3
              first
                | refine Fx.skip rfl rfl (by simp only [List.set_cons_zero, List.set_cons_succ]; rfl) ?_
                | (with_reducible refine Fx.lab0 ?_
                   first
                     | refine Fx.moveT rfl rfl rfl (by simp only [List.set_cons_zero, List.set_cons_succ]; rfl) ?_
                     | refine Fx.assignT rfl rfl rfl (by simp only [List.set_cons_zero, List.set_cons_succ]; rfl) ?_
                     | refine Fx.pure_ rfl rfl (fun _ => by go_simp; first | done | rfl) (by simp only [List.set_cons_zero, List.set_cons_succ]; rfl) ?_)
                | (with_reducible refine Fx.lab1 ?_
                   refine Fx.look rfl rfl (fun w' hC => by obtain ⟨hc, hf, hl⟩ := Ext.cells hC; go_simp; rfl) (by simp only [List.set_cons_zero, List.set_cons_succ]; rfl) ?_)
            refine Fx.done (fun w9 hC => ?_)
            have HC := Lib.hid hC
            clear hC
            go_wp2
            go_ret
            exact ⟨rfl, HE2.out.trans (HI6.out.ext.trans HC.out)⟩
  · by_cases hf0 : f < 0
    · clear hf
      go_wp2
      go_ret
      exact ⟨rfl, HE2.out⟩
    · have hf15 : 15 < f := by omega
      clear hf
      go_wp2
      go_ret
      exact ⟨rfl, HE2.out⟩
end Go.Proofs.Ytbjondnombnpbaa
