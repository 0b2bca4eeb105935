/-
  ids.Unpack: a batch's messages.
-/
import Derived.Test.YtbjondnombnpbaaFirst
namespace Go.Proofs.Ytbjondnombnpbaa
open Go.RowKit
attribute [local go_sem] Oper.semAt_some

def unpF : Nat → ByteArray → Option (List Ms)
  | 0, t => if t.size = 0 then some [] else none
  | k + 1, t => match firstF t with
    | none => none
    | some m => (unpF k (t.extract (9 + m.d.size) t.size)).map (m :: ·)
def unp (t : ByteArray) : Option (List Ms) :=
  if t.size < 1 ∨ 64 < byteAt t 0 then none else unpF (byteAt t 0).toNat (t.extract 1 t.size)
def unpE (t : ByteArray) : Int := if (unp t).isSome then 0 else 101
def unpL (t : ByteArray) : List Ms := (unp t).getD []
def UnpR (w : World) (t : ByteArray) (e : Ending) (w' : World) : Prop := ∃ v, e = .returned (.tuple #[v, .int .i64 (unpE t)]) ∧ MsL w' v (unpL t) ∧ Ext w w'
def firstN : Option Ms → Int
  | none => 0
  | some m => 9 + m.d.size
theorem firstV_eq (R : Option Ms) : firstV R = .tuple #[(R.getD ms0).val, .int .i64 (firstN R)] := by cases R <;> rfl
theorem firstF_size {t : ByteArray} {m : Ms} (h : firstF t = some m) : 9 + m.d.size ≤ t.size ∧ rightB m = true := by
  unfold firstF at h
  split at h
  · cases h
  · split at h
    · cases h
    · split at h
      · injection h with h
        subst h
        refine ⟨?_, by assumption⟩
        have := get4_lt (t.extract 5 9)
        simp only [ByteArray.size_extract]
        omega
      · cases h
theorem unp_none {t : ByteArray} (h : unp t = none) : unpE t = 101 ∧ unpL t = [] := by unfold unpE unpL; rw [h]; exact ⟨rfl, rfl⟩
theorem unp_some {t : ByteArray} {l : List Ms} (h : unp t = some l) : unpE t = 0 ∧ unpL t = l := by unfold unpE unpL; rw [h]; exact ⟨rfl, rfl⟩
theorem bytes_empty (r : ByteArray) : r.toList.isEmpty = decide (r.size = 0) := by
  rw [ByteArray.toList_eq]
  have : r.size = r.data.toList.length := rfl
  rw [this]
  cases r.data.toList <;> simp
theorem msl_nil (w : World) : MsL w (.slice none 0 0) [] := (Own.nil (e := 34)).sl Ms.len
set_option maxRecDepth 100000 in
set_option maxHeartbeats 3200000 in
theorem unpack_at (w : World) (t : ByteArray) (ht : t.size ≤ 100000) : Calls Try.prog 21 #[.string t] w (UnpR w t) := by
  have hnil := fun h : unp t = none => (show UnpR w t (.returned (.tuple #[.slice none 0 0, .int .i64 101])) w from by
    obtain ⟨h1, h2⟩ := unp_none h
    exact ⟨_, by rw [h1], by rw [h2]; exact msl_nil w, Ext.refl _⟩)
  by_cases h1 : t.size < 1
  · have h1' : (t.size : Int) < 1 := by omega
    have hn : unp t = none := by unfold unp; rw [if_pos (.inl h1)]
    have Hf := Lib.hid (hnil hn)
    clear hnil hn h1
    go_enter Try.func21, Try.ntmps21
    go_wp2
    go_ret2
    exact Hf.out
  · have h1' : ¬ (t.size : Int) < 1 := by omega
    have hix : ∀ w, (Instr.index 9 (.string t) (.int .i64 0)).run Try.prog w = .ok (.int .u8 (byteAt t 0)) w := fun w => run_idx t 0 (by omega) w
    obtain ⟨hb0, hb1⟩ := byteAt_lt t 0
    obtain ⟨N, hN⟩ : ∃ N : Nat, byteAt t 0 = N := ⟨(byteAt t 0).toNat, by omega⟩
    have hu : unp t = if 64 < (N : Int) then none else unpF N (t.extract 1 t.size) := by
      unfold unp
      rw [hN]
      by_cases h : 64 < (N : Int)
      · rw [if_pos (.inr h), if_pos h]
      · rw [if_neg (by omega), if_neg h]; rfl
    rw [hN] at hix hb0 hb1
    have hwN : IntKind.i64.wrap (N : Int) = N := IntWalk.i64_in _ ⟨by omega, by omega⟩
    have Hu := Lib.hid hu
    clear hu hN
    by_cases h64 : 64 < (N : Int)
    · have Hf := Lib.hid (hnil (by rw [Hu.out, if_pos h64]))
      clear hnil h1
      go_enter Try.func21, Try.ntmps21
      go_wp2
      go_ret2
      exact Hf.out
    · have ht1 : (1 : Int) ≤ t.size := by omega
      have HU : Hid (unp t = unpF N (t.extract 1 t.size)) := Lib.hid (by rw [Hu.out, if_neg h64])
      have hr0 : (t.extract 1 t.size).size ≤ 100000 := by rw [ByteArray.size_extract]; omega
      have Hr0 := Lib.hid hr0
      have Hnil := Lib.hid hnil
      clear Hu hnil hr0
      go_enter Try.func21, Try.ntmps21
      go_wp2
      clear hix
      go_loopw [4, 5, 21] (fun q s i wr => ∃ (k : Nat) (r : ByteArray) (l : List Ms) (v : Value), v = q ∧ s = .string r ∧ i = .int .i64 k ∧ k ≤ N ∧ Hid (OwnMs wr v l) ∧ Hid (∀ b, v.ownBlock = some b → w.heap.size ≤ b) ∧ Hid (Ext w wr) ∧ Hid (unp t = (unpF (N - k) r).map (l ++ ·)) ∧ Hid (l.length = k) ∧ Hid (r.size ≤ 100000)) (fun _ _ i _ => N - (intOf i).toNat)
      case atStart => exact ⟨0, _, [], _, rfl, rfl, rfl, Nat.zero_le _, Lib.hid Own.nil, Lib.hid (fun b hb => by simp [Value.ownBlock] at hb), Lib.hid (Ext.refl _), Lib.hid (by rw [HU.out]; simp), Lib.hid rfl, Hr0⟩
      case round =>
        obtain ⟨k, r, l, v, rfl, rfl, rfl, hk, hown, hblk, hE, hun, hll, hrs⟩ := hrel
        by_cases hlt : k < N
        · have hwk : IntKind.i64.wrap ((k : Int) + 1) = (k : Int) + 1 := IntWalk.i64_in _ ⟨by omega, by omega⟩
          obtain ⟨R, hR⟩ : ∃ R, firstF r = R := ⟨_, rfl⟩
          have hmn := firstV_eq R
          obtain ⟨m, hm⟩ : ∃ m, R.getD ms0 = m := ⟨_, rfl⟩
          obtain ⟨n, hn⟩ : ∃ n, firstN R = n := ⟨_, rfl⟩
          rw [hm, hn] at hmn
          have HR := Lib.hid hR
          have Hmn := Lib.hid hmn
          have Hm := Lib.hid hm
          have Hn := Lib.hid hn
          clear hR hmn hm hn
          go_upto_region 7 with fail
          refine wp_region_line [(0,0),(1,1),(2,0),(3,0),(4,0),(5,2),(6,3),(7,0)] (by kernel_rfl) (by kernel_rfl) (Ext wr) (fun _ _ h k => h.trans k) (Ext.refl _) ?_
          first
            | refine Fx.skip rfl rfl (by simp only [List.set_cons_zero, List.set_cons_succ]; rfl) ?_
            | (with_reducible refine Fx.lab0 ?_
               first
                 | refine Fx.moveT rfl rfl rfl (by simp only [List.set_cons_zero, List.set_cons_succ]; rfl) ?_
                 | refine Fx.assignT rfl rfl rfl (by simp only [List.set_cons_zero, List.set_cons_succ]; rfl) ?_
                 | refine Fx.pure_ rfl rfl (fun _ => by go_simp; first | done | rfl) (by simp only [List.set_cons_zero, List.set_cons_succ]; rfl) ?_)
            | (with_reducible refine Fx.lab1 ?_
               refine Fx.look rfl rfl (fun w' hC => by obtain ⟨hc, hf, hl⟩ := Ext.cells hC; go_simp; rfl) (by simp only [List.set_cons_zero, List.set_cons_succ]; rfl) ?_)
          refine Fx.call1 (v := .tuple #[m.val, .int .i64 n]) (args := #[.string r]) rfl rfl (fun _ => by first | (go_simp; done) | (go_simp; rfl)) (fun w' hC => (first_at w' r hrs.out).mono (fun e w'' hh => by rw [HR.out, Hmn.out] at hh; exact hh)) (by simp only [List.set_cons_zero, List.set_cons_succ]; rfl) ?_
          iterate 3
            first
              | refine Fx.skip rfl rfl (by simp only [List.set_cons_zero, List.set_cons_succ]; rfl) ?_
              | (with_reducible refine Fx.lab0 ?_
                 first
                   | refine Fx.moveT rfl rfl rfl (by simp only [List.set_cons_zero, List.set_cons_succ]; rfl) ?_
                   | refine Fx.assignT rfl rfl rfl (by simp only [List.set_cons_zero, List.set_cons_succ]; rfl) ?_
                   | refine Fx.pure_ rfl rfl (fun _ => by go_simp; first | done | rfl) (by simp only [List.set_cons_zero, List.set_cons_succ]; rfl) ?_)
              | (with_reducible refine Fx.lab1 ?_
                 refine Fx.look rfl rfl (fun w' hC => by obtain ⟨hc, hf, hl⟩ := Ext.cells hC; go_simp; rfl) (by simp only [List.set_cons_zero, List.set_cons_succ]; rfl) ?_)
          refine Fx.mkPtr (fun B w' => wr.heap.size ≤ B ∧ Obj_ w' B 3 (msF ms0)) (fun B _ _ h k => ⟨h.1, h.2.ext k⟩) rfl rfl (fun w' hC => stepAt_alloc_Ms hC) (fun B => ?_)
          simp only [List.set_cons_zero, List.set_cons_succ]
          refine Fx.eff0 (MsPre wr B m) (msPre_stable _ _ _) rfl rfl (fun w' hC => stepAt_mono (stepAt_store_Ms hC.1 hC.2.1 hC.2.2 m rfl rfl) (fun _ w'' h => ⟨h.1, hC.2.1, h.2⟩)) ?_
          first
            | refine Fx.skip rfl rfl (by simp only [List.set_cons_zero, List.set_cons_succ]; rfl) ?_
            | (with_reducible refine Fx.lab0 ?_
               first
                 | refine Fx.moveT rfl rfl rfl (by simp only [List.set_cons_zero, List.set_cons_succ]; rfl) ?_
                 | refine Fx.assignT rfl rfl rfl (by simp only [List.set_cons_zero, List.set_cons_succ]; rfl) ?_
                 | refine Fx.pure_ rfl rfl (fun _ => by go_simp; first | done | rfl) (by simp only [List.set_cons_zero, List.set_cons_succ]; rfl) ?_)
            | (with_reducible refine Fx.lab1 ?_
               refine Fx.look rfl rfl (fun w' hC => by obtain ⟨hc, hf, hl⟩ := Ext.cells hC; go_simp; rfl) (by simp only [List.set_cons_zero, List.set_cons_succ]; rfl) ?_)
          refine Fx.done (fun w1 hC => ?_)
          obtain ⟨hC1, -, hOb⟩ := hC
          obtain ⟨d0, d1, d2⟩ := hOb.ms
          have dl := hOb.lt
          have HE1 := Lib.hid (hE.out.trans hC1)
          have Hown1 := Lib.hid (hown.out.ext hC1)
          have hs1 := hC1.size
          clear hC1 hOb hown hE
          cases R with
          | none =>
            obtain rfl : 0 = n := Hn.out
            have hu : unp t = none := by
              obtain ⟨j, hj⟩ : ∃ j, N - k = j + 1 := ⟨N - k - 1, by omega⟩
              rw [hun.out, hj, unpF, HR.out]; rfl
            have Hu2 := Lib.hid (unp_none hu)
            clear hu
            go_wp2
            go_ret2
            exact ⟨_, by rw [Hu2.out.1]; rfl, by rw [Hu2.out.2]; exact msl_nil _, HE1.out⟩
          | some y =>
            obtain rfl : y = m := Hm.out
            obtain ⟨hz1, -⟩ := firstF_size HR.out
            have hn : n = 9 + (y.d.size : Int) := Hn.out.symm
            have hn0 : ¬ n = 0 := by omega
            have hn1 : 0 ≤ n := by omega
            have hn2 : n ≤ (r.size : Int) := by omega
            have hn3 : n.toNat = 9 + y.d.size := by omega
            have Hn3 := Lib.hid hn3
            clear hn hz1 hn3
            go_upto_region 10 with fail
            refine wp_region_line [(0,0),(1,1),(2,2),(3,3),(4,0)] (by kernel_rfl) (by kernel_rfl) (Ext w1) (fun _ _ h k => h.trans k) (Ext.refl _) ?_
            first
              | refine Fx.skip rfl rfl (by simp only [List.set_cons_zero, List.set_cons_succ]; rfl) ?_
              | (with_reducible refine Fx.lab0 ?_
                 first
                   | refine Fx.moveT rfl rfl rfl (by simp only [List.set_cons_zero, List.set_cons_succ]; rfl) ?_
                   | refine Fx.assignT rfl rfl rfl (by simp only [List.set_cons_zero, List.set_cons_succ]; rfl) ?_
                   | refine Fx.pure_ rfl rfl (fun _ => by go_simp; first | done | rfl) (by simp only [List.set_cons_zero, List.set_cons_succ]; rfl) ?_)
              | (with_reducible refine Fx.lab1 ?_
                 refine Fx.look rfl rfl (fun w' hC => by obtain ⟨hc, hf, hl⟩ := Ext.cells hC; go_simp; rfl) (by simp only [List.set_cons_zero, List.set_cons_succ]; rfl) ?_)
            refine Fx.look rfl rfl (op_load_Ms' (m := y) dl d0 d1 d2 rfl) (by simp only [List.set_cons_zero, List.set_cons_succ]; rfl) ?_
            refine Fx.mkSl 1 1 (fun B w' => MsL w' (.slice (some ⟨B, 0, none⟩) 1 1) [y]) (fun B _ _ h k => h.ext k) rfl rfl (fun w' hC => stepAt_lit1 hC y rfl) (fun B2 => ?_)
            simp only [List.set_cons_zero, List.set_cons_succ]
            refine Fx.eff (fun v' w' => OwnMs w' v' (l ++ [y]) ∧ Mods (fun c => v.ownBlock = some c) w1 w' ∧ (∀ c, v'.ownBlock = some c → v.ownBlock = some c ∨ w1.heap.size ≤ c)) (fun v _ _ h k => ⟨h.1.ext k, h.2.1.then_ k, h.2.2⟩) rfl rfl
              (fun w' hC => stepAt_append hC.1 (Hown1.out.ext hC.1) hC.2 (by have := hll.out; simp; omega) rfl rfl) (fun lv' => ?_)
            simp only [List.set_cons_zero, List.set_cons_succ]
            first
              | refine Fx.skip rfl rfl (by simp only [List.set_cons_zero, List.set_cons_succ]; rfl) ?_
              | (with_reducible refine Fx.lab0 ?_
                 first
                   | refine Fx.moveT rfl rfl rfl (by simp only [List.set_cons_zero, List.set_cons_succ]; rfl) ?_
                   | refine Fx.assignT rfl rfl rfl (by simp only [List.set_cons_zero, List.set_cons_succ]; rfl) ?_
                   | refine Fx.pure_ rfl rfl (fun _ => by go_simp; first | done | rfl) (by simp only [List.set_cons_zero, List.set_cons_succ]; rfl) ?_)
              | (with_reducible refine Fx.lab1 ?_
                 refine Fx.look rfl rfl (fun w' hC => by obtain ⟨hc, hf, hl⟩ := Ext.cells hC; go_simp; rfl) (by simp only [List.set_cons_zero, List.set_cons_succ]; rfl) ?_)
            refine Fx.done (fun w3 hC => ?_)
            have HC := Lib.hid hC
            clear hC d0 d1 d2
            go_wp2
            go_roundw
            case rel =>
              refine ⟨k + 1, _, l ++ [y], _, rfl, rfl, by go_num, by omega, Lib.hid HC.out.1, ?_, ?_, ?_, Lib.hid (by rw [List.length_append, hll.out]; rfl), Lib.hid (by rw [ByteArray.size_extract]; have := hrs.out; omega)⟩
              · exact Lib.hid (fun b hb => (HC.out.2.2 b hb).elim (hblk.out b) (fun h => Nat.le_trans HE1.out.size h))
              · exact Lib.hid (((HE1.out.mods (fun c => v.ownBlock = some c)).trans HC.out.2.1 (fun _ _ h => h)).ext_of (fun x hx hs => by have := hblk.out x hs; omega))
              · refine Lib.hid ?_
                obtain ⟨j, hj⟩ : ∃ j, N - k = j + 1 := ⟨N - k - 1, by omega⟩
                rw [hun.out, hj, unpF, HR.out, show N - (k + 1) = j by omega, Hn3.out]
                simp
                rfl
            case measure => simp [intOf]; omega
        · have hkN : N - k = 0 := by omega
          obtain ⟨A, cap, rfl, -⟩ := hown.out.val
          by_cases hr0 : r.size = 0
          · have hu : unp t = some l := by rw [hun.out, hkN, unpF, if_pos hr0]; simp
            have hre : r.toList.isEmpty = true := by rw [bytes_empty]; simp [hr0]
            have Hu2 := Lib.hid (unp_some hu)
            clear hu
            go_wp2
            go_ret2
            exact ⟨_, by rw [Hu2.out.1]; rfl, by rw [Hu2.out.2]; exact hown.out.sl Ms.len, hE.out⟩
          · have hu : unp t = none := by rw [hun.out, hkN, unpF, if_neg hr0]; rfl
            have hre : r.toList.isEmpty = false := by rw [bytes_empty]; simp [hr0]
            have Hu2 := Lib.hid (unp_none hu)
            clear hu
            go_wp2
            go_ret2
            exact ⟨_, by rw [Hu2.out.1]; rfl, by rw [Hu2.out.2]; exact msl_nil _, hE.out⟩
end Go.Proofs.Ytbjondnombnpbaa
