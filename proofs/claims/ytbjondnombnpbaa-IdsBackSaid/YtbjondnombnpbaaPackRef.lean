/-
  rostrumref10.Pack: the same bytes.
-/
import Derived.Test.YtbjondnombnpbaaPack2
namespace Go.Proofs.Ytbjondnombnpbaa
open Go.RowKit
attribute [local go_sem] Oper.semAt_some

theorem strOfNums_append (a b : List Int) : strOfNums (a ++ b) = strOfNums a ++ strOfNums b := by
  apply ByteArray.ext
  simp [strOfNums, ByteArray.data_append]
theorem strOfNums_bytes (d : ByteArray) : strOfNums (bytesI d) = d := by
  apply ByteArray.ext
  apply Array.ext'
  simp only [strOfNums, bytesI, List.map_map]
  have : ((fun n : Int => UInt8.ofNat n.toNat) ∘ fun b : UInt8 => (b.toNat : Int)) = id := by
    funext b
    simp
  rw [this, List.map_id]
theorem strOfNums_cat (L : List ByteArray) (l : List Int) : strOfNums (l ++ catI L) = L.foldl (· ++ ·) (strOfNums l) := by
  induction L generalizing l with
  | nil => simp [catI]
  | cons d t ih =>
    have e : catI (d :: t) = bytesI d ++ catI t := by simp [catI]
    rw [e, ← List.append_assoc, ih, List.foldl_cons, strOfNums_append, strOfNums_bytes]
theorem cat_step (n : Int) (l : List Ms) (m : Ms) : (((strOfNums (catI (partsL n l)) ++ by1 m.f) ++ put4 m.c) ++ put4 (IntKind.u32.wrap m.d.size)) ++ m.d = strOfNums (catI (partsL n (l ++ [m]))) := by
  rw [partsL_snoc, catI_append, strOfNums_cat]; rfl
theorem op_concat {ρ : Operand → Value} {d : Option Tmp} {x y : Operand} {u t : TypeId} {s : String} {af : Array Edge} {g : Option (Nat × Bool)} (a b : ByteArray) (hx : ρ x = .string a) (hy : ρ y = .string b) (h : a.size + b.size ≤ 9223372036854775807) (w : World) :
    (execOp ρ ⟨d, .binOp .add 9 x y u, t, s, af, g⟩).run Try.prog w = .ok (.value (.string (a ++ b))) w := by
  have h1 : (binOp .add 9 (.string a) (.string b)).run Try.prog w = .ok (.string (a ++ b)) w := by
    have : binOp .add 9 (.string a) (.string b) = Op.stringOp .add a b := by simp [binOp]
    rw [this]; exact run_string_add_sum w a b h
  have h2 : (eqGuard .add 9 x y (.string a) (.string b)).run Try.prog w = .ok () w := by simp [eqGuard]
  simp only [execOp, hx, hy, Sem.run_bind, h2, h1, Result.andThen_ok]; rfl

set_option maxRecDepth 100000 in
set_option maxHeartbeats 3200000 in
theorem pack_ref (w : World) (v : Value) (L : List Ms) (hl : MsL w v L) : Calls Try.prog 18 #[v] w (PackR w L) := by
  have HL := Lib.hid hl
  obtain ⟨A, cap, rfl, hcap, hmax⟩ := hl.val
  have hlen : L.length ≤ 9223372036854775807 := Nat.le_trans hcap (Nat.le_trans hmax (by decide))
  clear hl hcap hmax
  by_cases h64 : 64 < L.length
  · have he : packE L = 101 := by unfold packE; rw [if_pos h64]
    have hs : packS L = ⟨#[]⟩ := by unfold packS; rw [he]; rfl
    have HE := Lib.hid he
    have HS := Lib.hid hs
    have hd : decide (64 < (L.length : Int)) = true := by simp; omega
    clear he hs
    go_enter Try.func18, Try.ntmps18
    go_wp2
    go_ret2
    exact ⟨by rw [HE.out, HS.out]; rfl, Ext.refl _⟩
  · have hd1 : decide (64 < (L.length : Int)) = false := by simp; omega
    have hd2 : decide (64 < L.length) = false := by simp; omega
    have hwl : IntKind.u8.wrap (L.length : Int) = (L.length : Int) := by simp [IntKind.wrap, IntKind.bits, IntKind.signed]; omega
    go_enter Try.func18, Try.ntmps18
    go_upto_region 3 with fail
    clear hwl
    refine wp_region_line [(0,0),(1,0),(2,0),(3,2),(4,1),(5,0)] (by kernel_rfl) (by kernel_rfl) (Ext w) (fun _ _ h k => h.trans k) (Ext.refl _) ?_
    iterate 3
      first
        | refine Fx.skip rfl rfl (by simp only [List.set_cons_zero, List.set_cons_succ]; rfl) ?_
        | (with_reducible refine Fx.lab0 ?_
           first
             | refine Fx.moveT rfl rfl rfl (by simp only [List.set_cons_zero, List.set_cons_succ]; rfl) ?_
             | refine Fx.assignT rfl rfl rfl (by simp only [List.set_cons_zero, List.set_cons_succ]; rfl) ?_
             | refine Fx.pure_ rfl rfl (fun _ => by go_simp; first | done | rfl) (by simp only [List.set_cons_zero, List.set_cons_succ]; rfl) ?_)
        | (with_reducible refine Fx.lab1 ?_
           refine Fx.look rfl rfl (fun w' hC => by obtain ⟨hc, hf, hl⟩ := Ext.cells hC; go_simp; rfl) (by simp only [List.set_cons_zero, List.set_cons_succ]; rfl) ?_)
    refine Fx.mkSl 1 1 (fun B w' => ByL w' (.slice (some ⟨B, 0, none⟩) 1 1) [IntKind.u8.wrap (L.length : Int)]) (fun B _ _ h k => h.ext k) rfl rfl (fun w' hC => stepAt_lit1B hC _ rfl) (fun Bb => ?_)
    simp only [List.set_cons_zero, List.set_cons_succ]
    refine Fx.look rfl rfl (fun w' hC => op_conv hC.2 rfl) (by simp only [List.set_cons_zero, List.set_cons_succ]; rfl) ?_
    first
      | refine Fx.skip rfl rfl (by simp only [List.set_cons_zero, List.set_cons_succ]; rfl) ?_
      | (with_reducible refine Fx.lab0 ?_
         first
           | refine Fx.moveT rfl rfl rfl (by simp only [List.set_cons_zero, List.set_cons_succ]; rfl) ?_
           | refine Fx.assignT rfl rfl rfl (by simp only [List.set_cons_zero, List.set_cons_succ]; rfl) ?_
           | refine Fx.pure_ rfl rfl (fun _ => by go_simp; first | done | rfl) (by simp only [List.set_cons_zero, List.set_cons_succ]; rfl) ?_)
      | (with_reducible refine Fx.lab1 ?_
         refine Fx.look rfl rfl (fun w' hC => by obtain ⟨hc, hf, hl⟩ := Ext.cells hC; go_simp; rfl) (by simp only [List.set_cons_zero, List.set_cons_succ]; rfl) ?_)
    refine Fx.done (fun w1 hC => ?_)
    have HE1 := Lib.hid hC.1
    clear hC hd1 hd2
    have hp0 : strOfNums [IntKind.u8.wrap (L.length : Int)] = strOfNums (catI (partsL L.length (L.take 0))) := by
      rw [List.take_zero]
      have : catI (partsL (L.length : Int) []) = bytesI (by1 L.length) := by simp [partsL, catI]
      rw [this, strOfNums_bytes]; rfl
    rw [hp0]
    clear hp0
    go_wp2
    go_loopw [4, 5] (fun q p wr => ∃ (k : Nat), k ≤ L.length ∧ p = .int .i64 k ∧ q = .string (strOfNums (catI (partsL L.length (L.take k)))) ∧ Hid (∀ m ∈ L.take k, rightB m = true) ∧ Hid (Ext w wr)) (fun _ p _ => L.length - (intOf p).toNat)
    case atStart => exact ⟨0, Nat.zero_le _, rfl, rfl, Lib.hid (by simp), HE1⟩
    case round =>
      obtain ⟨k, hk, rfl, rfl, hok, hE⟩ := hrel
      by_cases hlt : k < L.length
      · obtain ⟨jb, joff, rfl, hjbl, j0, j1, j2⟩ := Sl.at3 (HL.out.ext hE.out) hlt
        have hwk : IntKind.i64.wrap ((k : Int) + 1) = (k : Int) + 1 := IntWalk.i64_in _ ⟨by omega, by omega⟩
        obtain ⟨q0, q1⟩ := cat_parts (L.length : Int) (L.take k) hok.out
        have hst := cat_step (L.length : Int) (L.take k) L[k]
        rw [← List.take_succ_eq_append_getElem hlt] at hst
        have htk := List.take_succ_eq_append_getElem hlt
        obtain ⟨m, hm⟩ : ∃ m, L[k] = m := ⟨_, rfl⟩
        have hmL : m ∈ L := by rw [← hm]; exact List.getElem_mem _
        rw [hm] at j0 j1 j2 hst htk
        obtain ⟨S, hS⟩ : ∃ S, strOfNums (catI (partsL (L.length : Int) (L.take k))) = S := ⟨_, rfl⟩
        have hSs : S.size ≤ 100000 := by rw [← hS, strOfNums_size]; rw [List.length_take] at q1; omega
        rw [hS] at hst ⊢
        obtain ⟨r, hr⟩ : ∃ r, rightB m = r := ⟨_, rfl⟩
        have Hr := Lib.hid hr
        have Hst := Lib.hid hst
        have Htk := Lib.hid htk
        have HmL := Lib.hid hmL
        have HSs := Lib.hid hSs
        clear q0 q1 hst htk hm hmL hS hSs hr
        go_upto_region 7 with fail
        refine wp_region_line [(0,0),(1,0),(2,0),(3,1),(4,1),(5,0)] (by kernel_rfl) (by kernel_rfl) (Ext wr) (fun _ _ h k => h.trans k) (Ext.refl _) ?_
        iterate 3
          first
            | refine Fx.skip rfl rfl (by simp only [List.set_cons_zero, List.set_cons_succ]; rfl) ?_
            | (with_reducible refine Fx.lab0 ?_
               first
                 | refine Fx.moveT rfl rfl rfl (by simp only [List.set_cons_zero, List.set_cons_succ]; rfl) ?_
                 | refine Fx.assignT rfl rfl rfl (by simp only [List.set_cons_zero, List.set_cons_succ]; rfl) ?_
                 | refine Fx.pure_ rfl rfl (fun _ => by go_simp; first | done | rfl) (by simp only [List.set_cons_zero, List.set_cons_succ]; rfl) ?_)
            | (with_reducible refine Fx.lab1 ?_
               refine Fx.look rfl rfl (fun w' hC => by obtain ⟨hc, hf, hl⟩ := Ext.cells hC; go_simp; rfl) (by simp only [List.set_cons_zero, List.set_cons_succ]; rfl) ?_)
        refine Fx.look rfl rfl (op_load_Ms' (m := m) hjbl j0 j1 j2 rfl) (by simp only [List.set_cons_zero, List.set_cons_succ]; rfl) ?_
        refine Fx.call1 (v := .bool r) (args := #[m.val]) rfl rfl (fun _ => by first | (go_simp; done) | (go_simp; rfl)) (fun w' hC => (right_ref m w').mono (fun e w'' hh => by rw [Hr.out] at hh; exact hh)) (by simp only [List.set_cons_zero, List.set_cons_succ]; rfl) ?_
        first
          | refine Fx.skip rfl rfl (by simp only [List.set_cons_zero, List.set_cons_succ]; rfl) ?_
          | (with_reducible refine Fx.lab0 ?_
             first
               | refine Fx.moveT rfl rfl rfl (by simp only [List.set_cons_zero, List.set_cons_succ]; rfl) ?_
               | refine Fx.assignT rfl rfl rfl (by simp only [List.set_cons_zero, List.set_cons_succ]; rfl) ?_
               | refine Fx.pure_ rfl rfl (fun _ => by go_simp; first | done | rfl) (by simp only [List.set_cons_zero, List.set_cons_succ]; rfl) ?_)
          | (with_reducible refine Fx.lab1 ?_
             refine Fx.look rfl rfl (fun w' hC => by obtain ⟨hc, hf, hl⟩ := Ext.cells hC; go_simp; rfl) (by simp only [List.set_cons_zero, List.set_cons_succ]; rfl) ?_)
        refine Fx.done (fun w2 hC => ?_)
        obtain ⟨xc, xf, xl⟩ := hC.cells
        replace j0 := (xc _ _ hjbl).trans j0
        replace j1 := (xc _ _ hjbl).trans j1
        replace j2 := (xc _ _ hjbl).trans j2
        replace hjbl := xl _ hjbl
        have HE2 := Lib.hid (hE.out.trans hC)
        clear xc xf xl hC
        cases r with
        | false =>
          have he : packE L = 100 := by
            unfold packE
            rw [if_neg h64]
            have : L.all rightB = false := by rw [List.all_eq_false]; exact ⟨m, HmL.out, by rw [Hr.out]; simp⟩
            rw [this]; rfl
          have hs : packS L = ⟨#[]⟩ := by unfold packS; rw [he]; rfl
          have HPE := Lib.hid he
          have HPS := Lib.hid hs
          clear he hs
          go_wp2
          go_ret2
          exact ⟨by rw [HPE.out, HPS.out]; rfl, HE2.out⟩
        | true =>
          have hmd := (rightB_iff.1 Hr.out).2.2.2.2
          have s1 : (S ++ by1 m.f).size ≤ 100001 := by rw [ByteArray.size_append]; have := HSs.out; have : (by1 m.f).size = 1 := strOfNums_size _; omega
          have z1 : (by1 m.f).size = 1 := strOfNums_size _
          have z2 : ∀ n, (put4 n).size = 4 := fun n => strOfNums_size _
          have s2 : ((S ++ by1 m.f) ++ put4 m.c).size ≤ 100005 := by rw [ByteArray.size_append, z2]; omega
          have s3 : (((S ++ by1 m.f) ++ put4 m.c) ++ put4 (IntKind.u32.wrap m.d.size)).size ≤ 100009 := by rw [ByteArray.size_append, z2]; omega
          have S1 := Lib.hid s1
          have S2 := Lib.hid s2
          have S3 := Lib.hid s3
          have Z1 := Lib.hid z1
          have Z2 := Lib.hid z2
          have Hmd := Lib.hid hmd
          clear s1 s2 s3 z1 z2 hmd
          go_upto_region 10 with fail
          refine wp_region_plan [(0,0),(1,0),(2,0),(3,0),(4,0),(5,0),(6,1),(7,0),(11,0),(12,0),(13,0),(14,0),(15,0),(16,1),(17,1),(19,0),(20,0),(21,0),(22,0),(23,1),(24,0),(25,0),(26,1),(28,0),(29,0),(30,0),(31,0),(32,1),(8,2),(9,1),(10,0),(18,0),(27,0),(33,0),(34,0)] (by kernel_rfl) (by kernel_rfl) (by kernel_rfl) (Ext w2) (fun _ _ h k => h.trans k) (Ext.drawn _ _) ?_
          iterate 8
            first
              | refine Fx.skip rfl rfl (by simp only [List.set_cons_zero, List.set_cons_succ]; rfl) ?_
              | (with_reducible refine Fx.lab0 ?_
                 first
                   | refine Fx.moveT rfl rfl rfl (by simp only [List.set_cons_zero, List.set_cons_succ]; rfl) ?_
                   | refine Fx.assignT rfl rfl rfl (by simp only [List.set_cons_zero, List.set_cons_succ]; rfl) ?_
                   | refine Fx.pure_ rfl rfl (fun _ => by go_simp; first | done | rfl) (by simp only [List.set_cons_zero, List.set_cons_succ]; rfl) ?_)
              | (with_reducible refine Fx.lab1 ?_
                 refine Fx.look rfl rfl (fun w' hC => by obtain ⟨hc, hf, hl⟩ := Ext.cells hC; go_simp; rfl) (by simp only [List.set_cons_zero, List.set_cons_succ]; rfl) ?_)
          iterate 5
            first
              | refine Fx.skip rfl rfl (by simp only [List.set_cons_zero, List.set_cons_succ]; rfl) ?_
              | (with_reducible refine Fx.lab0 ?_
                 first
                   | refine Fx.moveT rfl rfl rfl (by simp only [List.set_cons_zero, List.set_cons_succ]; rfl) ?_
                   | refine Fx.assignT rfl rfl rfl (by simp only [List.set_cons_zero, List.set_cons_succ]; rfl) ?_
                   | refine Fx.pure_ rfl rfl (fun _ => by go_simp; first | done | rfl) (by simp only [List.set_cons_zero, List.set_cons_succ]; rfl) ?_)
              | (with_reducible refine Fx.lab1 ?_
                 refine Fx.look rfl rfl (fun w' hC => by obtain ⟨hc, hf, hl⟩ := Ext.cells hC; go_simp; rfl) (by simp only [List.set_cons_zero, List.set_cons_succ]; rfl) ?_)
          refine Fx.look (v := .int .u32 m.c) rfl rfl (fun w' hC => by obtain ⟨hc, hf, hl⟩ := Ext.cells hC; first | (go_simp; done) | (go_simp; rfl)) (by simp only [List.set_cons_zero, List.set_cons_succ]; rfl) ?_
          refine Fx.call1 (v := .string (put4 m.c)) (args := #[.int .u32 m.c]) rfl rfl (fun _ => by first | (go_simp; done) | (go_simp; rfl)) (fun w' hC => put_ref _ w') (by simp only [List.set_cons_zero, List.set_cons_succ]; rfl) ?_
          iterate 4
            first
              | refine Fx.skip rfl rfl (by simp only [List.set_cons_zero, List.set_cons_succ]; rfl) ?_
              | (with_reducible refine Fx.lab0 ?_
                 first
                   | refine Fx.moveT rfl rfl rfl (by simp only [List.set_cons_zero, List.set_cons_succ]; rfl) ?_
                   | refine Fx.assignT rfl rfl rfl (by simp only [List.set_cons_zero, List.set_cons_succ]; rfl) ?_
                   | refine Fx.pure_ rfl rfl (fun _ => by go_simp; first | done | rfl) (by simp only [List.set_cons_zero, List.set_cons_succ]; rfl) ?_)
              | (with_reducible refine Fx.lab1 ?_
                 refine Fx.look rfl rfl (fun w' hC => by obtain ⟨hc, hf, hl⟩ := Ext.cells hC; go_simp; rfl) (by simp only [List.set_cons_zero, List.set_cons_succ]; rfl) ?_)
          refine Fx.look (v := .string m.d) rfl rfl (fun w' hC => by obtain ⟨hc, hf, hl⟩ := Ext.cells hC; first | (go_simp; done) | (go_simp; rfl)) (by simp only [List.set_cons_zero, List.set_cons_succ]; rfl) ?_
          iterate 2
            first
              | refine Fx.skip rfl rfl (by simp only [List.set_cons_zero, List.set_cons_succ]; rfl) ?_
              | (with_reducible refine Fx.lab0 ?_
                 first
                   | refine Fx.moveT rfl rfl rfl (by simp only [List.set_cons_zero, List.set_cons_succ]; rfl) ?_
                   | refine Fx.assignT rfl rfl rfl (by simp only [List.set_cons_zero, List.set_cons_succ]; rfl) ?_
                   | refine Fx.pure_ rfl rfl (fun _ => by go_simp; first | done | rfl) (by simp only [List.set_cons_zero, List.set_cons_succ]; rfl) ?_)
              | (with_reducible refine Fx.lab1 ?_
                 refine Fx.look rfl rfl (fun w' hC => by obtain ⟨hc, hf, hl⟩ := Ext.cells hC; go_simp; rfl) (by simp only [List.set_cons_zero, List.set_cons_succ]; rfl) ?_)
          refine Fx.call1 (v := .string (put4 (IntKind.u32.wrap m.d.size))) (args := #[.int .u32 (IntKind.u32.wrap m.d.size)]) rfl rfl (fun _ => by first | (go_simp; done) | (go_simp; rfl)) (fun w' hC => put_ref _ w') (by simp only [List.set_cons_zero, List.set_cons_succ]; rfl) ?_
          iterate 4
            first
              | refine Fx.skip rfl rfl (by simp only [List.set_cons_zero, List.set_cons_succ]; rfl) ?_
              | (with_reducible refine Fx.lab0 ?_
                 first
                   | refine Fx.moveT rfl rfl rfl (by simp only [List.set_cons_zero, List.set_cons_succ]; rfl) ?_
                   | refine Fx.assignT rfl rfl rfl (by simp only [List.set_cons_zero, List.set_cons_succ]; rfl) ?_
                   | refine Fx.pure_ rfl rfl (fun _ => by go_simp; first | done | rfl) (by simp only [List.set_cons_zero, List.set_cons_succ]; rfl) ?_)
              | (with_reducible refine Fx.lab1 ?_
                 refine Fx.look rfl rfl (fun w' hC => by obtain ⟨hc, hf, hl⟩ := Ext.cells hC; go_simp; rfl) (by simp only [List.set_cons_zero, List.set_cons_succ]; rfl) ?_)
          refine Fx.look (v := .string m.d) rfl rfl (fun w' hC => by obtain ⟨hc, hf, hl⟩ := Ext.cells hC; first | (go_simp; done) | (go_simp; rfl)) (by simp only [List.set_cons_zero, List.set_cons_succ]; rfl) ?_
          refine Fx.mkSl 1 1 (fun B w' => ByL w' (.slice (some ⟨B, 0, none⟩) 1 1) [IntKind.u8.wrap m.f]) (fun B _ _ h k => h.ext k) rfl rfl (fun w' hC => stepAt_lit1B hC _ rfl) (fun Bc => ?_)
          simp only [List.set_cons_zero, List.set_cons_succ]
          refine Fx.look (v := .string (by1 m.f)) rfl rfl (fun w' hC => op_conv hC.2 rfl) (by simp only [List.set_cons_zero, List.set_cons_succ]; rfl) ?_
          refine Fx.pure_ rfl rfl (fun w => op_concat (S) (by1 m.f) rfl rfl (by have := HSs.out; have := Z1.out; omega) w) (by simp only [List.set_cons_zero, List.set_cons_succ]; rfl) ?_
          refine Fx.pure_ rfl rfl (fun w => op_concat (S ++ by1 m.f) (put4 m.c) rfl rfl (by have := S1.out; have := Z2.out m.c; omega) w) (by simp only [List.set_cons_zero, List.set_cons_succ]; rfl) ?_
          refine Fx.pure_ rfl rfl (fun w => op_concat ((S ++ by1 m.f) ++ put4 m.c) (put4 (IntKind.u32.wrap m.d.size)) rfl rfl (by have := S2.out; have := Z2.out (IntKind.u32.wrap m.d.size); omega) w) (by simp only [List.set_cons_zero, List.set_cons_succ]; rfl) ?_
          refine Fx.pure_ rfl rfl (fun w => op_concat (((S ++ by1 m.f) ++ put4 m.c) ++ put4 (IntKind.u32.wrap m.d.size)) (m.d) rfl rfl (by have := S3.out; have := Hmd.out; omega) w) (by simp only [List.set_cons_zero, List.set_cons_succ]; rfl) ?_
          first
            | refine Fx.skip rfl rfl (by simp only [List.set_cons_zero, List.set_cons_succ]; rfl) ?_
            | (with_reducible refine Fx.lab0 ?_
               first
                 | refine Fx.moveT rfl rfl rfl (by simp only [List.set_cons_zero, List.set_cons_succ]; rfl) ?_
                 | refine Fx.assignT rfl rfl rfl (by simp only [List.set_cons_zero, List.set_cons_succ]; rfl) ?_
                 | refine Fx.pure_ rfl rfl (fun _ => by go_simp; first | done | rfl) (by simp only [List.set_cons_zero, List.set_cons_succ]; rfl) ?_)
            | (with_reducible refine Fx.lab1 ?_
               refine Fx.look rfl rfl (fun w' hC => by obtain ⟨hc, hf, hl⟩ := Ext.cells hC; go_simp; rfl) (by simp only [List.set_cons_zero, List.set_cons_succ]; rfl) ?_)
          refine Fx.done (fun w3 hC => ?_)
          have HE3 := Lib.hid (HE2.out.trans hC.1)
          clear hC j0 j1 j2
          rw [Hst.out]
          go_wp2
          go_roundw
          case rel => exact ⟨k + 1, by omega, by go_num, rfl, Lib.hid (by rw [Htk.out]; intro x hx; rcases List.mem_append.1 hx with hx | hx; exact hok.out x hx; simp only [List.mem_cons, List.not_mem_nil, or_false] at hx; rw [hx]; exact Hr.out), HE3⟩
          case measure => simp [intOf]; omega
      · have hkl : k = L.length := by omega
        have he : packE L = 0 := by
          unfold packE
          rw [if_neg h64, if_pos (by rw [List.all_eq_true]; have := hok.out; rw [hkl, List.take_length] at this; exact this)]
        have hs : packS L = strOfNums (catI (partsL L.length (L.take k))) := by unfold packS; rw [if_pos he, hkl, List.take_length]
        have HPE := Lib.hid he
        have HPS := Lib.hid hs
        clear he hs
        go_wp2
        go_ret2
        exact ⟨by rw [HPE.out, HPS.out]; rfl, hE.out⟩
end Go.Proofs.Ytbjondnombnpbaa
