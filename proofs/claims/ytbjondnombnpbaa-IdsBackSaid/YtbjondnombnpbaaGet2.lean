/-
  crc.Get: four bytes as a number.
-/
import Derived.Test.YtbjondnombnpbaaGet
import Derived.Test.YtbjondnombnpbaaTake
import Derived.Scope
namespace Go.Proofs.Ytbjondnombnpbaa
open Go.RowKit
attribute [local go_sem] Oper.semAt_some

structure GtP (w w0 : World) (B4 Bq : Nat) : Prop where
  ws : w.heap.size ≤ w0.heap.size
  a0 : w.heap.size ≤ B4
  a1 : B4 < w0.heap.size
  b1 : Bq < w0.heap.size
  ne : Bq ≠ B4
structure GtI (w : World) (B4 Bq : Nat) (t : ByteArray) (k : Nat) (W : World) : Prop where
  c : Obj_ W B4 1 (fun _ => .int .u32 (accG t k))
  q : Obj_ W Bq 1 (fun _ => .string t)
  e : Ext w W
theorem GtI.bk {w w0 W W' : World} {B4 Bq : Nat} {t : ByteArray} {k : Nat} (hP : GtP w w0 B4 Bq) (h : GtI w B4 Bq t k W) (hm : Mods (Bk w0) W W') : GtI w B4 Bq t k W' := by
  have := hP.a1; have := hP.b1; have := hP.ws
  exact ⟨h.c.mods hm (by unfold Bk; omega), h.q.mods hm (by unfold Bk; omega), ((h.e.mods _).trans hm (fun _ _ h => h)).ext_of (fun x hx h => by unfold Bk at h; omega)⟩
def gtL (t : ByteArray) (B4 Bq : Nat) (v5 v6 v12 v13 : Value) : List Value :=
  [.string t, undef, .int .u32 0, .int .i64 0, .pointer (some ⟨B4, 0, none⟩), v5, v6, .string t, .int .i64 4, .bool false, .string t, .func (.func 59) #[] #[.pointer (some ⟨Bq, 0, none⟩)], v12, v13,
   undef, undef, undef, undef, undef, undef, undef, undef]
def GtA (w : World) (B4 Bq : Nat) (t : ByteArray) (k : Nat) (a' : Act) (W : World) : Prop :=
  GtI w B4 Bq t k W ∧ a' = Act.mk (gtL t B4 Bq (.int .i64 k) (.int .u8 (byteAt t k)) (.int .i64 k) (.int .u8 (byteAt t k))).toArray []
theorem accG_lt (t : ByteArray) : ∀ k, 0 ≤ accG t k ∧ accG t k < 256 ^ k
  | 0 => by simp [accG]
  | k + 1 => by
    have ih := accG_lt t k
    have h := byteAt_lt t k
    have hp : (0 : Int) ≤ 256 ^ k := by omega
    have e : (256 : Int) ^ (k + 1) = 256 ^ k * 256 := Int.pow_succ ..
    have m0 : 0 ≤ (256 : Int) ^ k * byteAt t k := Int.mul_nonneg hp h.1
    have m1 : (256 : Int) ^ k * byteAt t k ≤ 256 ^ k * 255 := Int.mul_le_mul_of_nonneg_left (by omega) hp
    rw [e]; unfold accG; omega
section
variable {a : Act} {d : Option Tmp} {t : TypeId} {s : String} {af : Array Edge} {g : Option (Nat × Bool)} {W w : World}
theorem stepAt_alloc_u32 (hC : Ext W w) : stepAt Try.prog ⟨d, .alloc 30, t, s, af, g⟩ a w (fun u w' => ∃ b, u = .pointer (some ⟨b, 0, none⟩) ∧ Ext w w' ∧ W.heap.size ≤ b ∧ Obj_ w' b 1 (fun _ => .int .u32 0)) := by
  have hr : (Instr.alloc 30 true (.tuple #[])).run Try.prog w = .ok (.pointer (some ⟨w.heap.size, 0, none⟩)) (w.alloc (.cells #[.int .u32 0] 30)) := by
    simp [go_sem, Try.zeroValue30]
  unfold stepAt
  simp only [execOp, Sem.run_bind, hr, Result.andThen_ok]
  exact ⟨_, rfl, Ext.alloc _ _, hC.size, Obj_.new w 30 #[.int .u32 0] (fun _ => .int .u32 0) (by intro i hi; simp at hi; subst hi; rfl)⟩
end
theorem accG_step (t : ByteArray) (k : Nat) (hk : k < 4) (y : Int) (hy : y = 256 ^ k * byteAt t k) : bits .or .u32 (accG t k) y = accG t (k + 1) := by
  subst hy
  have a := accG_lt t k
  have b := byteAt_lt t k
  obtain rfl | rfl | rfl | rfl : k = 0 ∨ k = 1 ∨ k = 2 ∨ k = 3 := by omega
  · exact or32 0 _ _ (by omega) (by simp [accG]) (by omega) (by omega) (by omega) (by decide)
  · exact or32 8 _ _ (by omega) (by omega) (by omega) (by omega) (by omega) (by decide)
  · exact or32 16 _ _ (by omega) (by omega) (by omega) (by omega) (by omega) (by decide)
  · exact or32 24 _ _ (by omega) (by omega) (by omega) (by omega) (by omega) (by decide)
set_option maxRecDepth 100000 in
set_option maxHeartbeats 6400000 in
theorem get_in (w : World) (t : ByteArray) (ht : t.size = 4) : CallsIn Fence.wide 5 Try.prog 43 #[.string t] w (fun e w' => e = .returned (.tuple #[.int .u32 (get4 t), .int .i64 0]) ∧ Ext w w') := by
  have hF := wideF_wide
  refine callsIn_of_wp_marks Try.func43 rfl trivial ?_
  simp only [Try.ntmps43, List.size_toArray, List.length_cons, List.length_nil, Nat.reduceAdd, Nat.reduceSub, Array.replicate_succ, Array.replicate_zero, List.push_toArray, List.append_toArray, List.nil_append, List.cons_append]
  gi_upto_region 3 with fail
  refine wpIn_region_line hF [(0,2),(1,3)] (by kernel_rfl) (by kernel_rfl) (Ext w) (fun _ _ h k => h.trans k) (Ext.refl _) ?_
  refine Fx.mkPtr (fun B w' => w.heap.size ≤ B ∧ Obj_ w' B 1 (fun _ => .int .u32 0)) (fun B _ _ h k => ⟨h.1, h.2.ext k⟩) rfl rfl (fun w' hC => stepAt_alloc_u32 hC) (fun B4 => ?_)
  simp only [List.set_cons_zero, List.set_cons_succ]
  refine Fx.eff0 (fun w' => Ext w w' ∧ w.heap.size ≤ B4 ∧ Obj_ w' B4 1 (fun _ => .int .u32 (accG t 0))) (fun _ _ h k => ⟨h.1.trans k, h.2.1, h.2.2.ext k⟩) rfl rfl (fun w' hC => ?_) ?_
  · obtain ⟨h1, h2, h3⟩ := hC
    have c0 := h3.cell 0 (by omega)
    have f0 := h3.free 0
    unfold stepAt
    rw [show (execOp _ _).run Try.prog w' = .ok .skip (w'.setCell ⟨B4, 0, none⟩ (.int .u32 0)) from by first | (go_simp; done) | (go_simp; rfl)]
    exact ⟨h1.setNew (p := ⟨B4, 0, none⟩) h2 _, h2, (h3.set (i := 0) (by omega) _).congr (fun i hi => by unfold upd; rw [if_pos (by omega)]; rfl)⟩
  refine Fx.done (fun w1 hC => ?_)
  obtain ⟨hE1, hB4, hO4⟩ := hC
  have HE1 := Lib.hid hE1
  have HO4 := Lib.hid hO4
  have hl4 := hO4.lt
  have hs1 := hE1.size
  clear hE1 hO4
  gi_upto_region 4 with fail
  refine wpIn_region_line hF [(0,0),(1,2)] (by kernel_rfl) (by kernel_rfl) (Ext w1) (fun _ _ h k => h.trans k) (Ext.refl _) ?_
  first
    | refine Fx.skip rfl rfl (by simp only [List.set_cons_zero, List.set_cons_succ]; rfl) ?_
    | (with_reducible refine Fx.lab0 ?_
       first
         | refine Fx.moveT rfl rfl rfl (by simp only [List.set_cons_zero, List.set_cons_succ]; rfl) ?_
         | refine Fx.assignT rfl rfl rfl (by simp only [List.set_cons_zero, List.set_cons_succ]; rfl) ?_
         | refine Fx.pure_ rfl rfl (fun _ => by go_simp; first | done | rfl) (by simp only [List.set_cons_zero, List.set_cons_succ]; rfl) ?_)
    | (with_reducible refine Fx.lab1 ?_
       refine Fx.look rfl rfl (fun w' hC => by obtain ⟨hc, hf, hl⟩ := Ext.cells hC; go_simp; rfl) (by simp only [List.set_cons_zero, List.set_cons_succ]; rfl) ?_)
  refine Fx.mkBy (β := Nat) (fun p => .func (.func 59) #[] #[.pointer (some ⟨p, 0, none⟩)])
    (fun p w' => w1.heap.size ≤ p ∧ Obj_ w' p 1 (fun _ => .string t)) (fun p _ _ h k => ⟨h.1, h.2.ext k⟩) rfl rfl (fun w'' hC => ?_) (fun Bq => ?_)
  · unfold stepAt
    rw [show (execOp _ _).run Try.prog w'' = .ok (.enter 48 #[.string t]) w'' from by first | (go_simp; done) | (go_simp; rfl)]
    exact (each_at w'' t).mono (fun e w3 hh => by
      obtain ⟨Bn, rfl, h1, h2, h3⟩ := hh
      have := hC.size
      exact ⟨_, rfl, Bn, rfl, h1, by omega, h3⟩)
  simp only [List.set_cons_zero, List.set_cons_succ]
  refine Fx.done (fun w0 hC => ?_)
  obtain ⟨hC0, hq1, oq⟩ := hC
  have hs0 := hC0.size
  have hlq := oq.lt
  have hP : GtP w w0 B4 Bq := ⟨by omega, hB4, by omega, by omega, by omega⟩
  have HP := Lib.hid hP
  have I0 : GtI w B4 Bq t 0 w0 := ⟨HO4.out.ext hC0, oq, HE1.out.trans hC0⟩
  have HI0 := Lib.hid I0
  clear hP I0 oq hq1 hC0 hs1 hs0 hB4 hl4 hlq
  gi_wp2
  refine rangeFunc_law hF rfl (gf := 59) (lb := #[.pointer (some ⟨Bq, 0, none⟩)]) ?hg (fun args w => callFunc_at _ (by kernel_rfl) args w)
    4 (fun k => #[.int .i64 k, .int .u8 (byteAt t k)]) (fun _ _ => rfl) (GtI w B4 Bq t) (fun _ _ _ => False) ?hI ?hIx ?h0 ?hseq
    (GtA w B4 Bq t) ?hA ?assign ?body ?done ?stop
  case hg => rfl
  case hI => exact fun k W W' h hm => h.bk HP.out hm
  case hIx => exact fun _ _ _ _ h _ => h
  case h0 => exact HI0.out
  case hseq =>
    intro W hm
    have := each_iter hF rfl (5 - 1) (GtI w B4 Bq t) t Bq (by omega) (fun k W h => h.q.cell 0 (by decide)) W
    rwa [ht] at this
  case hA => exact fun k a' W W' h hm => ⟨h.1.bk HP.out hm, h.2⟩
  case assign =>
    intro q k W hk hi hs
    simp only [List.zip_toArray, List.zip_cons_cons, List.zip_nil_left, List.zip_nil_right, List.foldl_toArray, List.foldl_toArray', List.foldl_cons, List.foldl_nil, List.setIfInBounds_toArray, List.set_cons_succ, List.set_cons_zero]
    show Code.wpIn (Fence.wide.inRound q) _ _ _ _ (Act.mk (gtL t B4 Bq undef undef (.int .i64 k) (.int .u8 (byteAt t k))).toArray []) W
    have Hi := Lib.hid hi
    clear hi
    unfold gtL
    have hFq := hF.inRound q
    gi_wp2
    exact ⟨Ext.refl _, Hi.out, rfl⟩
  case body =>
    rintro q k a' W hk ⟨hi, rfl⟩ hs
    have hFq := hF.inRound q
    have c4 := hi.c.cell 0 (by decide)
    have f4 := hi.c.free 0
    have l4 := hi.c.lt
    have HI := Lib.hid hi
    clear hi
    have hb := byteAt_lt t k
    have hwb : IntKind.u32.wrap (byteAt t k) = byteAt t k := by rw [IntKind.wrap_u32]; omega
    have hwk : IntKind.i64.wrap (8 * (k : Int)) = 8 * (k : Int) := IntWalk.i64_in _ ⟨by omega, by omega⟩
    obtain ⟨y, hy⟩ : ∃ y, IntKind.u32.wrap (byteAt t k * 2 ^ (8 * (k : Int)).toNat) = y := ⟨_, rfl⟩
    have hy2 : y = 256 ^ k * byteAt t k := by
      rw [← hy, IntKind.wrap_u32]
      obtain rfl | rfl | rfl | rfl : k = 0 ∨ k = 1 ∨ k = 2 ∨ k = 3 := by omega
      all_goals (simp; omega)
    have hst := accG_step t k hk y hy2
    have Hst := Lib.hid hst
    obtain ⟨x, hx⟩ : ∃ x, byteAt t k = x := ⟨_, rfl⟩
    obtain ⟨ac, hac⟩ : ∃ ac, accG t k = ac := ⟨_, rfl⟩
    rw [hac] at c4
    rw [hx] at hwb hy ⊢
    clear hst hy2 hb
    unfold gtL
    gi_upto_region 7 with fail
    refine wpIn_region_plan hFq [(1,0),(2,0),(3,0),(4,0),(5,0),(0,1),(6,0),(7,3)] (by kernel_rfl) (by kernel_rfl) (by kernel_rfl) (Ext W) (fun _ _ h k => h.trans k) (Ext.drawn _ _) ?_
    iterate 5
      first
        | refine Fx.skip rfl rfl (by simp only [List.set_cons_zero, List.set_cons_succ]; rfl) ?_
        | (with_reducible refine Fx.lab0 ?_
           first
             | refine Fx.moveT rfl rfl rfl (by simp only [List.set_cons_zero, List.set_cons_succ]; rfl) ?_
             | refine Fx.assignT rfl rfl rfl (by simp only [List.set_cons_zero, List.set_cons_succ]; rfl) ?_
             | refine Fx.pure_ rfl rfl (fun _ => by go_simp; first | done | rfl) (by simp only [List.set_cons_zero, List.set_cons_succ]; rfl) ?_)
        | (with_reducible refine Fx.lab1 ?_
           refine Fx.look rfl rfl (fun w' hC => by obtain ⟨hc, hf, hl⟩ := Ext.cells hC; go_simp; rfl) (by simp only [List.set_cons_zero, List.set_cons_succ]; rfl) ?_)
    iterate 2
      first
        | refine Fx.skip rfl rfl (by simp only [List.set_cons_zero, List.set_cons_succ]; rfl) ?_
        | (with_reducible refine Fx.lab0 ?_
           first
             | refine Fx.moveT rfl rfl rfl (by simp only [List.set_cons_zero, List.set_cons_succ]; rfl) ?_
             | refine Fx.assignT rfl rfl rfl (by simp only [List.set_cons_zero, List.set_cons_succ]; rfl) ?_
             | refine Fx.pure_ rfl rfl (fun _ => by go_simp; first | done | rfl) (by simp only [List.set_cons_zero, List.set_cons_succ]; rfl) ?_)
        | (with_reducible refine Fx.lab1 ?_
           refine Fx.look rfl rfl (fun w' hC => by obtain ⟨hc, hf, hl⟩ := Ext.cells hC; go_simp; rfl) (by simp only [List.set_cons_zero, List.set_cons_succ]; rfl) ?_)
    refine Fx.store ⟨B4, 0, none⟩ (.int .u32 (bits .or .u32 ac y)) rfl rfl (fun w' hC => by obtain ⟨hc, hf, hl⟩ := Ext.cells hC; go_simp) ?_
    refine Fx.done (fun wb hC => ?_)
    obtain ⟨wx, x1, x2⟩ := hC
    have m5 : Mods (· = B4) W wb := (x1.mods _).trans ((Mods.setCell wx B4 0 (.int .u32 (bits .or .u32 ac y))).then_ x2) (fun _ _ h => h)
    have hv : bits .or .u32 ac y = accG t (k + 1) := by rw [← hac]; exact Hst.out
    have o5 : Obj_ wb B4 1 (fun _ => .int .u32 (accG t (k + 1))) := ((((HI.out.c.ext x1).set (i := 0) (by omega) (.int .u32 (bits .or .u32 ac y)))).ext x2).congr (fun i hi => by unfold upd; rw [if_pos (by omega), hv])
    have M5 := Lib.hid m5
    have O5 := Lib.hid o5
    clear x1 x2 m5 o5 c4 f4 hv
    gi_wp2
    have hb1 := HP.out.a1
    have hb0 := HP.out.a0
    have hne := HP.out.ne
    exact ⟨KeepsBk.of_mods M5.out hs (by omega) (by omega), O5.out, HI.out.q.mods M5.out (by omega), ((HI.out.e.mods _).trans M5.out (fun _ _ h => h)).ext_of (fun x hx h => by omega)⟩
  case done =>
    intro W hI hD hs
    obtain ⟨h4, -, he⟩ := hI
    have c4 := h4.cell 0 (by decide)
    have l4 := h4.lt
    have HE := Lib.hid he
    have HD := Lib.hid hD
    clear h4 he hD
    gi_wp2
    refine ⟨by simp, .inl ⟨_, _, rfl, run_takeDeferred HD.out, ?_⟩⟩
    refine ⟨_, results_tmp2 rfl _ _ _, ?_⟩
    refine ⟨rfl, ((HE.out.mods (· = w0.heap.size)).trans (Mods.putObj _ _ _) (fun _ _ h => h)).ext_of (fun x hx e => by have := HP.out.ws; omega)⟩
  case stop => exact fun c k W _ h => h.elim
theorem get_crc (t : ByteArray) (ht : t.size = 4) (w : World) : Calls Try.prog 43 #[.string t] w fun e w' => e = .returned (.tuple #[.int .u32 (get4 t), .int .i64 0]) ∧ Ext w w' :=
  (callsIn_wide (n := 5)).1 (get_in w t ht)
end Go.Proofs.Ytbjondnombnpbaa
