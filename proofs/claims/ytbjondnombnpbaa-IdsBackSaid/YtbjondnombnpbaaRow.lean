/-
  ids.Book: row, and the iterator that it yields.
-/
import Derived.Test.YtbjondnombnpbaaWait
import Derived.Sort.CutIn
import Derived.LoopIn
import Derived.LoopNIn
import Derived.TacticsInMore
namespace Go.Proofs.Ytbjondnombnpbaa
open Go.RowKit
attribute [local go_sem] Oper.semAt_some

def RowR (b : Nat) (m : Ms) (w : World) (e : Ending) (w' : World) : Prop :=
  ∃ Bb Bm, e = .returned (.func (.func 40) #[] #[.pointer (some ⟨Bm, 0, none⟩), .pointer (some ⟨Bb, 0, none⟩)]) ∧ Ext w w' ∧ w.heap.size ≤ Bb ∧ w.heap.size ≤ Bm ∧ Bb ≠ Bm ∧ Obj_ w' Bb 1 (fun _ => .pointer (some ⟨b, 0, none⟩)) ∧ Obj_ w' Bm 3 (msF m)
theorem row_at (w : World) (b : Nat) (m : Ms) : Calls Try.prog 26 #[.pointer (some ⟨b, 0, none⟩), m.val] w (RowR b m w) := by
  have o1 := Obj_.new w 25 #[.pointer (some ⟨b, 0, none⟩)] (fun _ => .pointer (some ⟨b, 0, none⟩)) (by intro i hi; simp at hi; subst hi; rfl)
  have s1 : (w.alloc (.cells #[.pointer (some ⟨b, 0, none⟩)] 25)).heap.size = w.heap.size + 1 := by simp
  have E1 := Ext.alloc w (.cells #[.pointer (some ⟨b, 0, none⟩)] 25)
  have o2 := box_Ms (w.alloc (.cells #[.pointer (some ⟨b, 0, none⟩)] 25)) m
  have E2 := Ext.alloc (w.alloc (.cells #[.pointer (some ⟨b, 0, none⟩)] 25)) (.cells #[.int .i64 m.f, .int .u32 m.c, .string m.d] 34)
  rw [s1] at o2
  have O1 := Lib.hid o1
  have O2 := Lib.hid o2
  have H1 := Lib.hid E1
  have H2 := Lib.hid E2
  clear o1 o2 E1 E2
  unfold Ms.val
  go_enter Try.func26, Try.ntmps26
  go_wp2
  go_ret
  exact ⟨w.heap.size, w.heap.size + 1, rfl, H1.out.trans H2.out, by omega, by omega, by omega, O1.out.ext H2.out, O2.out⟩

theorem stepAt_put_Ms {a : Act} {d : Option Tmp} {t : TypeId} {s : String} {af : Array Edge} {g : Option (Nat × Bool)} {w : World} {B : Nat} {f : Nat → Value} {q x : Operand} (h : Obj_ w B 3 f) (m : Ms) (hq : a.eval q = .pointer (some ⟨B, 0, none⟩)) (hx : a.eval x = m.val) :
    stepAt Try.prog ⟨d, .store 34 q x, t, s, af, g⟩ a w (fun _ w' => Mods (· = B) w w' ∧ Obj_ w' B 3 (msF m)) := by
  unfold stepAt
  simp only [execOp, Sem.run_bind, run_store_Ms h m hq hx, Result.andThen_ok]
  have m1 := Mods.setCell w B 0 (.int .i64 m.f)
  have m2 := Mods.setCell (w.setCell ⟨B, 0, none⟩ (.int .i64 m.f)) B 1 (.int .u32 m.c)
  have m3 := Mods.setCell ((w.setCell ⟨B, 0, none⟩ (.int .i64 m.f)).setCell ⟨B, 1, none⟩ (.int .u32 m.c)) B 2 (.string m.d)
  refine ⟨(m1.trans m2 (fun _ _ h => h)).trans m3 (fun _ _ h => h), ?_⟩
  refine (((h.set (i := 0) (by omega) (.int .i64 m.f)).set (i := 1) (by omega) (.int .u32 m.c)).set (i := 2) (by omega) (.string m.d)).congr (fun i hi => ?_)
  match i, hi with
  | 0, _ => rfl
  | 1, _ => rfl
  | 2, _ => rfl

def cntAt (v : Value) (w : World) : Nat := match v with
  | .pointer (some a) => (match w.cell? ⟨a.block, 1, none⟩ with | some (.int _ c) => c.toNat | _ => 0)
  | _ => 0
def rowM (v r : Value) (w : World) : Nat := match r with | .bool true => 4294967296 - cntAt v w | _ => 0

set_option maxRecDepth 100000 in
set_option maxHeartbeats 1600000 in
theorem row_iter {F : Fence} (hF : WideF F) (hro : F.round = none) (n : Nat) (I : Nat → World → Prop) (b mb : Nat) (σ : BSt) (hO : σ.Ok) (x : Ms) (hx : rightB x = true) (Bm Bb : Nat) (L : List Ms) (hL : rowL σ.wt x = L)
    (hI : ∀ k W, I k W → W.cell? ⟨Bb, 0, none⟩ = some (.pointer (some ⟨b, 0, none⟩)) ∧ ∃ lv, BookAt W b mb lv (eatN σ (L.take k))) (W : World) (hm : Obj_ W Bm 3 (msF x)) :
    IterT F n Try.prog 40 #[.pointer (some ⟨Bm, 0, none⟩), .pointer (some ⟨Bb, 0, none⟩)] (fun k => #[(L.getD k ms0).val]) L.length I W := by
  intro q J Jx T0 hJ hJx hJI hY h0 hT0
  have HY := Lib.hid hY
  have HJ := Lib.hid hJ
  have HJI := Lib.hid hJI
  have HI := Lib.hid hI
  have H0 := Lib.hid h0
  have HT0 := Lib.hid hT0
  obtain ⟨r1, r2, r3⟩ := rowL_at hO hx
  rw [hL] at r1 r2 r3
  have hxr := rightB_iff.1 hx
  have hLn : 0 < L.length := by
    cases L with
    | nil => simp at r1
    | cons a t => simp
  have hg0 : L.getD 0 ms0 = x := by rw [List.getD_eq_getElem?_getD, r1]; rfl
  have R2 := Lib.hid r2
  have R3 := Lib.hid r3
  have HG0 := Lib.hid hg0
  obtain ⟨m0, m1, m2⟩ := hm.ms
  have ml := hm.lt
  clear hY hJ hJI hI h0 hT0 r1 r2 r3 hg0 hm hJx hO hL
  refine callsIn_of_wp Try.func40 rfl (hF.fn _) ?_ hro
  simp only [Try.ntmps40, List.size_toArray, List.length_cons, List.length_nil, Nat.reduceAdd, Nat.reduceSub, Array.replicate_succ, Array.replicate_zero, List.push_toArray, List.append_toArray, List.nil_append, List.cons_append]
  gi_upto_region 0 with fail
  refine wpIn_region_line hF [(0,1),(1,2),(2,3),(3,0)] (by kernel_rfl) (by kernel_rfl) (Ext W) (fun _ _ h k => h.trans k) (Ext.refl _) ?_
  refine Fx.look rfl rfl (op_load_Ms' (m := x) ml m0 m1 m2 rfl) (by simp only [List.set_cons_zero, List.set_cons_succ]; rfl) ?_
  refine Fx.mkPtr (fun B w' => W.heap.size ≤ B ∧ Obj_ w' B 3 (msF ms0)) (fun B _ _ h k => ⟨h.1, h.2.ext k⟩) rfl rfl (fun w' hC => stepAt_alloc_Ms hC) (fun B => ?_)
  simp only [List.set_cons_zero, List.set_cons_succ]
  refine Fx.eff0 (MsPre W B x) (msPre_stable _ _ _) rfl rfl (fun w' hC => stepAt_mono (stepAt_store_Ms hC.1 hC.2.1 hC.2.2 x rfl rfl) (fun _ w'' h => ⟨h.1, hC.2.1, h.2⟩)) ?_
  first
    | refine Fx.skip rfl rfl (by simp only [List.set_cons_zero, List.set_cons_succ]; rfl) ?_
    | (with_reducible refine Fx.lab0 ?_
       first
         | refine Fx.moveT rfl rfl rfl (by simp only [List.set_cons_zero, List.set_cons_succ]; rfl) ?_
         | refine Fx.assignT rfl rfl rfl (by simp only [List.set_cons_zero, List.set_cons_succ]; rfl) ?_
         | refine Fx.pure_ rfl rfl (fun _ => by go_simp; first | done | rfl) (by simp only [List.set_cons_zero, List.set_cons_succ]; rfl) ?_)
    | (with_reducible refine Fx.lab1 ?_
       refine Fx.look rfl rfl (fun w' hC => by obtain ⟨hc, hf, hl⟩ := Ext.cells hC; go_simp; rfl) (by simp only [List.set_cons_zero, List.set_cons_succ]; rfl) ?_)
  refine Fx.done (fun w1 hC => ?_)
  obtain ⟨hC1, hB, hOb⟩ := hC
  have HOb := Lib.hid hOb
  have HB := Lib.hid hB
  have hJ1 := HJ.out 0 T0 W w1 (fun _ => False) H0.out (hC1.mods _) (fun _ h => h.elim)
  have HJ1 := Lib.hid hJ1
  have HS1 := Lib.hid hC1.size
  clear hC1 hB hOb hJ1 m0 m1 m2 ml
  gi_wp2
  gi_loopw [4, 5] (fun v4 v5 wr => ∃ (k : Nat) (T : Nat → Prop) (B4 : Nat) (r : Bool), v4 = .pointer (some ⟨B4, 0, none⟩) ∧ v5 = .bool r ∧ Hid (r = decide (k < L.length)) ∧ k ≤ L.length ∧ Hid (J k T wr) ∧ Hid (¬ T B4) ∧ Hid (W.heap.size ≤ B4) ∧ Hid (∀ x, T x → x < wr.heap.size) ∧ Hid (Obj_ wr B4 3 (msF (L.getD k ms0)))) rowM
  case atStart => exact ⟨0, T0, B, true, rfl, rfl, Lib.hid (by simp [hLn]), by omega, HJ1, Lib.hid (fun h => by have := HT0.out _ h; have := HB.out; omega), HB, Lib.hid (fun x hx => by have := HT0.out x hx; have := HOb.out.lt; have := HB.out; have := HS1.out; omega), by rw [HG0.out]; exact HOb⟩
  case round =>
    obtain ⟨k, T, B4, r, rfl, rfl, hr, hk, hJk, hT4, hB4, hTl, hO4⟩ := hrel
    by_cases hlt : k < L.length
    · obtain rfl : r = true := by rw [hr.out]; simp [hlt]
      obtain ⟨y, hy⟩ : ∃ y, L[k]? = some y := ⟨L[k], by simp [hlt]⟩
      have hgk : L.getD k ms0 = y := by rw [List.getD_eq_getElem?_getD, hy]; rfl
      obtain ⟨p1, p2, p3⟩ := R2.out k y hy
      have p3' := rightB_iff.1 p3
      have hfind := R3.out k hlt
      rw [hgk] at hO4
      obtain ⟨d0, d1, d2⟩ := hO4.out.ms
      have dl := hO4.out.lt
      obtain ⟨fn, tmps, assign, body, hyv, hR⟩ := HY.out k T wr hlt hJk.out
      rw [hgk] at hyv
      unfold Ms.val at hyv
      have P1 := Lib.hid p1
      have P2 := Lib.hid p2
      have P3 := Lib.hid p3'
      have HFi := Lib.hid hfind
      have hmeas : rowM (.pointer (some ⟨B4, 0, none⟩)) (.bool true) wr = 4294967296 - y.c.toNat := by simp [rowM, cntAt, d1]
      have HMe := Lib.hid hmeas
      have Hy := Lib.hid hy
      clear hgk p1 p2 p3 p3' hfind hmeas hy
      gi_wp2
      refine ⟨(fun hs => by (rw [hF.depth] at hs; cases hs)), hR.mono ?_⟩
      rintro e W' ⟨T', hMd, hTs, hTl', (⟨rfl, hJ'⟩ | ⟨rfl, hJ'⟩)⟩
      · have O4 := Lib.hid (hO4.out.mods hMd hT4.out)
        have HT4' : Hid (¬ T' B4) := Lib.hid (fun h => (hTs _ h).elim hT4.out (fun h => by omega))
        have HTl' := Lib.hid hTl'
        have H' := Lib.hid hJ'
        obtain ⟨cb, lv, hBk⟩ := HI.out (k + 1) W' (HJI.out _ _ _ hJ')
        have HBk := Lib.hid hBk
        obtain ⟨c16, c17, cl, fb, lb, lm⟩ := hBk.cells
        have lBb := cell_lt cb
        clear d0 d1 d2 dl
        obtain ⟨d0, d1, d2⟩ := O4.out.ms
        have dl := O4.out.lt
        have hwy : IntKind.u32.wrap (y.c + 1) = y.c + 1 := IntWalk.u32_in _ ⟨by have := P3.out; omega, by have := P3.out; omega⟩
        obtain ⟨o, ho⟩ : ∃ o, L[k + 1]? = o := ⟨_, rfl⟩
        have hlk : kfind (y.f, y.c + 1) (eatN σ (L.take (k + 1))).wt = o := by
          rw [eat_find, P1.out, P2.out, HFi.out, ho]
          intro m hm hk2
          obtain ⟨j, hj1, hj2⟩ := List.getElem_of_mem hm
          have hj3 : j < k + 1 := by have := hj1; rw [List.length_take] at this; omega
          have hj4 : L[j]? = some m := by rw [← hj2, List.getElem_take]; exact List.getElem?_eq_getElem _
          obtain ⟨-, q2, -⟩ := R2.out j m hj4
          injection hk2 with _ hk2
          have := P2.out
          omega
        have Ho := Lib.hid ho
        have Hlk := Lib.hid hlk
        have hgk : L.getD (k + 1) ms0 = o.getD ms0 := by rw [List.getD_eq_getElem?_getD, ho]
        have Hgk := Lib.hid hgk
        clear hMd hTs hTl' hJ' hBk c16 cl fb lm hR hyv ho hlk hgk
        gi_upto_region 3 with fail
        refine wpIn_region_plan hF [(0,1),(1,0),(2,0),(3,1),(4,0),(5,0),(6,1),(7,0),(8,0),(9,1),(10,0),(11,0),(12,1),(13,0),(14,0),(15,0),(16,3),(17,0)] (by kernel_rfl) (by kernel_rfl) (by kernel_rfl) (Ext W') (fun _ _ h k => h.trans k) (Ext.drawn _ _) ?_
        iterate 12
          first
            | refine Fx.skip rfl rfl (by simp only [List.set_cons_zero, List.set_cons_succ]; rfl) ?_
            | (with_reducible refine Fx.lab0 ?_
               first
                 | refine Fx.moveT rfl rfl rfl (by simp only [List.set_cons_zero, List.set_cons_succ]; rfl) ?_
                 | refine Fx.assignT rfl rfl rfl (by simp only [List.set_cons_zero, List.set_cons_succ]; rfl) ?_
                 | refine Fx.pure_ rfl rfl (fun _ => by go_simp; first | done | rfl) (by simp only [List.set_cons_zero, List.set_cons_succ]; rfl) ?_)
            | (with_reducible refine Fx.lab1 ?_
               refine Fx.look rfl rfl (fun w' hC => by obtain ⟨hc, hf, hl⟩ := Ext.cells hC; go_simp; rfl) (by simp only [List.set_cons_zero, List.set_cons_succ]; rfl) ?_)
        refine Fx.look (v := .tuple #[(o.getD ms0).val, .bool o.isSome]) rfl rfl (fun w' hC => by rw [op_look (k := (y.f, y.c + 1)) (HBk.out.map.ext hC) keysId Try.underlying50 (Try.zeroValue34 w') rfl rfl, Hlk.out, lookVal]; rfl) (by simp only [List.set_cons_zero, List.set_cons_succ]; rfl) ?_
        iterate 3
          first
            | refine Fx.skip rfl rfl (by simp only [List.set_cons_zero, List.set_cons_succ]; rfl) ?_
            | (with_reducible refine Fx.lab0 ?_
               first
                 | refine Fx.moveT rfl rfl rfl (by simp only [List.set_cons_zero, List.set_cons_succ]; rfl) ?_
                 | refine Fx.assignT rfl rfl rfl (by simp only [List.set_cons_zero, List.set_cons_succ]; rfl) ?_
                 | refine Fx.pure_ rfl rfl (fun _ => by go_simp; first | done | rfl) (by simp only [List.set_cons_zero, List.set_cons_succ]; rfl) ?_)
            | (with_reducible refine Fx.lab1 ?_
               refine Fx.look rfl rfl (fun w' hC => by obtain ⟨hc, hf, hl⟩ := Ext.cells hC; go_simp; rfl) (by simp only [List.set_cons_zero, List.set_cons_succ]; rfl) ?_)
        refine Fx.eff0 (fun w' => Mods (· = B4) W' w' ∧ Obj_ w' B4 3 (msF (o.getD ms0))) (fun _ _ h k => ⟨h.1.then_ k, h.2.ext k⟩) rfl rfl (fun w' hC => stepAt_mono (stepAt_put_Ms (O4.out.ext hC) (o.getD ms0) rfl rfl) (fun _ w'' h => ⟨h.1.after hC, h.2⟩)) ?_
        first
          | refine Fx.skip rfl rfl (by simp only [List.set_cons_zero, List.set_cons_succ]; rfl) ?_
          | (with_reducible refine Fx.lab0 ?_
             first
               | refine Fx.moveT rfl rfl rfl (by simp only [List.set_cons_zero, List.set_cons_succ]; rfl) ?_
               | refine Fx.assignT rfl rfl rfl (by simp only [List.set_cons_zero, List.set_cons_succ]; rfl) ?_
               | refine Fx.pure_ rfl rfl (fun _ => by go_simp; first | done | rfl) (by simp only [List.set_cons_zero, List.set_cons_succ]; rfl) ?_)
          | (with_reducible refine Fx.lab1 ?_
             refine Fx.look rfl rfl (fun w' hC => by obtain ⟨hc, hf, hl⟩ := Ext.cells hC; go_simp; rfl) (by simp only [List.set_cons_zero, List.set_cons_succ]; rfl) ?_)
        refine Fx.done (fun w2 hC => ?_)
        obtain ⟨hm2, ho2⟩ := hC
        obtain ⟨z, hz⟩ : ∃ z, o.getD ms0 = z := ⟨_, rfl⟩
        rw [hz] at ho2
        have HZ := Lib.hid hz
        have HM2 := Lib.hid hm2
        clear d0 d1 d2 dl hz hm2 c17 lb cb lBb
        obtain ⟨d0, d1, d2⟩ := ho2.ms
        have dl := ho2.lt
        have HO2 := Lib.hid ho2
        clear ho2
        gi_upto_region 4 with fail
        refine wpIn_region_line hF [(0,1)] (by kernel_rfl) (by kernel_rfl) (Ext w2) (fun _ _ h k => h.trans k) (Ext.refl _) ?_
        refine Fx.look rfl rfl (op_load_Ms' (m := z) dl d0 d1 d2 rfl) (by simp only [List.set_cons_zero, List.set_cons_succ]; rfl) ?_
        refine Fx.done (fun w3 hC => ?_)
        have HE3 := Lib.hid hC
        clear hC d0 d1 d2 dl
        gi_upto_region 5 with fail
        refine wpIn_region_line hF [(0,2),(1,3)] (by kernel_rfl) (by kernel_rfl) (Ext w3) (fun _ _ h k => h.trans k) (Ext.refl _) ?_
        refine Fx.mkPtr (fun B w' => w3.heap.size ≤ B ∧ Obj_ w' B 3 (msF ms0)) (fun B _ _ h k => ⟨h.1, h.2.ext k⟩) rfl rfl (fun w' hC => stepAt_alloc_Ms hC) (fun B5 => ?_)
        simp only [List.set_cons_zero, List.set_cons_succ]
        refine Fx.eff0 (MsPre w3 B5 z) (msPre_stable _ _ _) rfl rfl (fun w' hC => stepAt_mono (stepAt_store_Ms hC.1 hC.2.1 hC.2.2 z rfl rfl) (fun _ w'' h => ⟨h.1, hC.2.1, h.2⟩)) ?_
        refine Fx.done (fun w4 hC => ?_)
        obtain ⟨hC4, hB5, hO5⟩ := hC
        have HE4 := Lib.hid (HE3.out.trans hC4)
        have HB5 := Lib.hid hB5
        have HO5 := Lib.hid hO5
        have hs4 := (HE3.out.trans hC4).size
        have hs3 := HE3.out.size
        have hs2 := HM2.out.size
        clear hC4 hB5 hO5
        gi_wp2
        go_roundw
        case rel =>
          refine ⟨k + 1, T', B5, o.isSome, rfl, rfl, Lib.hid ?_, by omega, Lib.hid ?_, Lib.hid ?_, Lib.hid ?_, Lib.hid ?_, ?_⟩
          · rw [← Ho.out]
            by_cases h : k + 1 < L.length <;> simp [h]
          · exact HJ.out (k + 1) T' W' w4 (· = B4) H'.out (HM2.out.then_ HE4.out) (fun x hx => by subst hx; exact ⟨hB4.out, HT4'.out⟩)
          · intro h
            have := HTl'.out _ h
            have := HB5.out
            omega
          · have := HB5.out
            have := hB4.out
            have := O4.out.lt
            omega
          · intro x hx
            have := HTl'.out x hx
            omega
          · rw [Hgk.out, HZ.out]; exact HO5
        case measure =>
          rw [HMe.out]
          have e5 := HO5.out.ms.2.1
          have p := P3.out
          cases ho : o with
          | none => simp only [Option.isSome_none, rowM]; omega
          | some z' =>
            have hz' : z = z' := by rw [← HZ.out, ho]; rfl
            have e6 : L[k + 1]? = some z' := by rw [Ho.out, ho]
            have q2 := (R2.out (k + 1) z' e6).2.1
            have p2 := P2.out
            have : rowM (.pointer (some ⟨B5, 0, none⟩)) (.bool true) w4 = 4294967296 - z.c.toNat := by simp [rowM, cntAt, e5]
            simp only [Option.isSome_some]
            rw [this, hz', q2]
            push_cast
            omega
      · have H' := Lib.hid hJ'
        clear hJ' hR hyv
        gi_wp2
        refine bodyPost_ret (results_none rfl _ _ _) rfl ?_
        exact ⟨⟨_, rfl⟩, T', .inr ⟨k + 1, by omega, H'.out⟩⟩
    · obtain rfl : r = false := by rw [hr.out]; simp [hlt]
      gi_wp2
      go_end0
      have hkl : k = L.length := by omega
      subst hkl
      exact ⟨⟨_, rfl⟩, T, .inl hJk.out⟩
end Go.Proofs.Ytbjondnombnpbaa
