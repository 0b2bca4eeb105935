/-
  Pack and Unpack, one against the other.
-/
import Derived.Test.YtbjondnombnpbaaUnpackRef
import Derived.Test.YtbjondnombnpbaaPackRef
namespace Go.Proofs.Ytbjondnombnpbaa

abbrev Dl (t : ByteArray) : List UInt8 := t.data.toList
theorem dl_ext {a b : ByteArray} (h : Dl a = Dl b) : a = b := ByteArray.ext (Array.ext' h)
theorem dl_append (a b : ByteArray) : Dl (a ++ b) = Dl a ++ Dl b := by simp [Dl]
theorem dl_len (t : ByteArray) : (Dl t).length = t.size := rfl
theorem dl_extract (t : ByteArray) (i j : Nat) : Dl (t.extract i j) = ((Dl t).take j).drop i := by
  simp [Dl, ByteArray.data_extract, Array.toList_extract, List.extract, List.drop_take]
theorem take_all (t : ByteArray) : (Dl t).take t.size = Dl t := List.take_length
theorem dl_nums (xs : List Int) : Dl (strOfNums xs) = xs.map fun n => UInt8.ofNat n.toNat := rfl
theorem byteAt_dl (t : ByteArray) (i : Nat) : byteAt t i = (((Dl t).getD i 0).toNat : Int) := rfl
def w8 (n : Int) : UInt8 := UInt8.ofNat (IntKind.u8.wrap n).toNat
theorem w8_val (n : Int) : ((w8 n).toNat : Int) = n % 256 := by
  unfold w8
  rw [IntKind.wrap_u8]
  simp
  omega
theorem w8_eq {n : Int} {u : UInt8} (h : n % 256 = u.toNat) : w8 n = u := by
  apply UInt8.toNat_inj.1
  have := w8_val n
  omega
theorem dl_by1 (n : Int) : Dl (by1 n) = [w8 n] := rfl
theorem dl_put4 (n : Int) : Dl (put4 n) = [w8 n, w8 (n / 256), w8 (n / 65536), w8 (n / 16777216)] := rfl
theorem get4_dl {t : ByteArray} {a b c d : UInt8} (h : Dl t = [a, b, c, d]) : get4 t = a.toNat + 256 * b.toNat + 65536 * c.toNat + 16777216 * d.toNat := by
  rw [get4_eq]; simp only [byteAt_dl, h]; rfl
theorem get_put (n : Int) (h0 : 0 ≤ n) (h1 : n < 4294967296) : get4 (put4 n) = n := by
  rw [get4_dl (dl_put4 n)]
  simp only [w8_val]
  omega
theorem four {l : List UInt8} (h : l.length = 4) : ∃ a b c d, l = [a, b, c, d] := by
  match l, h with
  | [a, b, c, d], _ => exact ⟨a, b, c, d, rfl⟩
theorem put_get (t : ByteArray) (h : t.size = 4) : put4 (get4 t) = t := by
  obtain ⟨a, b, c, d, e⟩ := four (l := Dl t) h
  apply dl_ext
  rw [dl_put4, e, get4_dl e]
  have ha := a.toNat_lt
  have hb := b.toNat_lt
  have hc := c.toNat_lt
  have hd := d.toNat_lt
  rw [w8_eq (u := a), w8_eq (u := b), w8_eq (u := c), w8_eq (u := d)] <;> omega
def encB (m : Ms) : ByteArray := ((by1 m.f ++ put4 m.c) ++ put4 (IntKind.u32.wrap m.d.size)) ++ m.d
def flatB (l : List Ms) : ByteArray := l.foldr (fun m r => encB m ++ r) ⟨#[]⟩
theorem bempty (t : ByteArray) : t ++ ⟨#[]⟩ = t := by apply dl_ext; rw [dl_append]; simp
theorem foldl_app (L : List ByteArray) (s : ByteArray) : L.foldl (· ++ ·) s = s ++ L.foldr (· ++ ·) ⟨#[]⟩ := by
  induction L generalizing s with
  | nil => simp [bempty]
  | cons x t ih =>
    rw [List.foldl_cons, ih, List.foldr_cons]
    apply dl_ext
    simp [dl_append]
theorem parts_flat (l : List Ms) : (l.flatMap pieces).foldr (· ++ ·) ⟨#[]⟩ = flatB l := by
  induction l with
  | nil => rfl
  | cons m t ih =>
    rw [List.flatMap_cons, List.foldr_append, ih]
    show _ = encB m ++ flatB t
    apply dl_ext
    simp [pieces, encB, dl_append]
theorem packS_eq {l : List Ms} (h : packE l = 0) : packS l = by1 l.length ++ flatB l := by
  unfold packS
  rw [if_pos h]
  have := strOfNums_cat (partsL l.length l) []
  rw [List.nil_append] at this
  rw [this, foldl_app]
  unfold partsL
  rw [List.foldr_cons, parts_flat]
  apply dl_ext
  simp [dl_append, strOfNums]
theorem enc_dl (m : Ms) (r : ByteArray) : Dl (encB m ++ r) = w8 m.f :: w8 m.c :: w8 (m.c / 256) :: w8 (m.c / 65536) :: w8 (m.c / 16777216) :: w8 (IntKind.u32.wrap m.d.size) :: w8 (IntKind.u32.wrap m.d.size / 256) :: w8 (IntKind.u32.wrap m.d.size / 65536) :: w8 (IntKind.u32.wrap m.d.size / 16777216) :: (Dl m.d ++ Dl r) := by
  unfold encB
  simp only [dl_append, dl_by1, dl_put4]
  simp
theorem enc_size (m : Ms) (r : ByteArray) : (encB m ++ r).size = 9 + m.d.size + r.size := by
  rw [← dl_len, enc_dl]
  simp only [List.length_cons, List.length_append, dl_len]
  omega
theorem enc_rest (m : Ms) (r : ByteArray) : (encB m ++ r).extract (9 + m.d.size) (encB m ++ r).size = r := by
  apply dl_ext
  rw [dl_extract, take_all, enc_dl, Nat.add_comm 9]
  simp only [List.drop_succ_cons]
  rw [List.drop_left' (dl_len m.d)]
theorem firstF_enc (m : Ms) (r : ByteArray) (hm : rightB m = true) : firstF (encB m ++ r) = some m := by
  obtain ⟨f0, f1, c0, c1, d1⟩ := rightB_iff.1 hm
  have hs := enc_size m r
  have hw : IntKind.u32.wrap (m.d.size : Int) = m.d.size := by rw [IntKind.wrap_u32]; omega
  have e1 : (encB m ++ r).extract 1 5 = put4 m.c := by
    apply dl_ext
    rw [dl_extract, enc_dl, dl_put4]
    simp
  have e2 : (encB m ++ r).extract 5 9 = put4 (m.d.size : Int) := by
    apply dl_ext
    rw [dl_extract, enc_dl, dl_put4, hw]
    simp
  have e3 : (encB m ++ r).extract 9 (9 + m.d.size) = m.d := by
    apply dl_ext
    rw [dl_extract, enc_dl, Nat.add_comm 9]
    simp only [List.take_succ_cons, List.drop_succ_cons, List.drop_zero]
    rw [List.take_left' (dl_len m.d)]
  have e0 : byteAt (encB m ++ r) 0 = m.f := by
    rw [byteAt_dl, enc_dl]
    show ((w8 m.f).toNat : Int) = _
    rw [w8_val]; omega
  have g1 : get4 (put4 m.c) = m.c := get_put _ (by omega) (by omega)
  have g2 : get4 (put4 (m.d.size : Int)) = m.d.size := get_put _ (by omega) (by omega)
  unfold firstF
  rw [if_neg (by omega), e1, e2, g1, g2, if_neg (by omega), Int.toNat_natCast, e3, e0]
  exact if_pos hm
theorem unpF_flat : ∀ (l : List Ms), l.all rightB = true → unpF l.length (flatB l) = some l
  | [], _ => rfl
  | m :: t, h => by
    rw [List.all_cons, Bool.and_eq_true] at h
    show unpF (t.length + 1) (encB m ++ flatB t) = _
    rw [unpF, firstF_enc m _ h.1]
    simp only
    rw [enc_rest, unpF_flat t h.2]; rfl
theorem packE_zero {l : List Ms} (h : packE l = 0) : l.length ≤ 64 ∧ l.all rightB = true := by
  unfold packE at h
  by_cases h1 : 64 < l.length
  · rw [if_pos h1] at h; cases h
  · rw [if_neg h1] at h
    by_cases h2 : l.all rightB = true
    · exact ⟨by omega, h2⟩
    · rw [if_neg h2] at h; cases h
theorem unp_pack {l : List Ms} (h : packE l = 0) : unp (packS l) = some l := by
  obtain ⟨h1, h2⟩ := packE_zero h
  rw [packS_eq h]
  have d : Dl (by1 (l.length : Int) ++ flatB l) = w8 l.length :: Dl (flatB l) := by rw [dl_append]; rfl
  have hs : (by1 (l.length : Int) ++ flatB l).size = 1 + (flatB l).size := by rw [← dl_len, d, List.length_cons, dl_len]; omega
  have hb : byteAt (by1 (l.length : Int) ++ flatB l) 0 = l.length := by
    rw [byteAt_dl, d]
    show ((w8 l.length).toNat : Int) = _
    rw [w8_val]; omega
  unfold unp
  rw [if_neg (by omega), hb, Int.toNat_natCast]
  have : (by1 (l.length : Int) ++ flatB l).extract 1 (by1 (l.length : Int) ++ flatB l).size = flatB l := by
    apply dl_ext
    rw [dl_extract, ← dl_len, List.take_length, d]; rfl
  rw [this, unpF_flat l h2]
theorem ext_app (t : ByteArray) (a b c : Nat) (h1 : a ≤ b) (h2 : b ≤ c) : t.extract a b ++ t.extract b c = t.extract a c := by
  apply dl_ext
  rw [dl_append, dl_extract, dl_extract, dl_extract]
  have e : (Dl t).take c = (Dl t).take b ++ ((Dl t).take c).drop b := by
    have := List.take_append_drop b ((Dl t).take c)
    rw [List.take_take, Nat.min_eq_left h2] at this
    exact this.symm
  conv => rhs; rw [e]
  rw [List.drop_append]
  by_cases h : b ≤ (Dl t).length
  · rw [List.length_take, Nat.min_eq_left h, Nat.sub_eq_zero_of_le h1, List.drop_zero]
  · have : ((Dl t).take c).drop b = [] := List.drop_eq_nil_of_le (by rw [List.length_take]; omega)
    rw [this]; simp
theorem by1_get (t : ByteArray) (h : 1 ≤ t.size) : by1 (byteAt t 0) = t.extract 0 1 := by
  apply dl_ext
  rw [dl_by1, dl_extract, byteAt_dl]
  have : 1 ≤ (Dl t).length := h
  match hd : Dl t, this with
  | x :: r, _ =>
    show [w8 (x.toNat : Int)] = [x]
    rw [w8_eq (u := x)]
    have := x.toNat_lt
    omega
theorem firstF_back {t : ByteArray} {m : Ms} (h : firstF t = some m) : t = encB m ++ t.extract (9 + m.d.size) t.size := by
  have hsz := (firstF_size h).1
  unfold firstF at h
  split at h
  · cases h
  · rename_i h9
    have hn := get4_lt (t.extract 5 9)
    have p2 := put_get (t.extract 5 9) (by rw [ByteArray.size_extract]; omega)
    have p1 := put_get (t.extract 1 5) (by rw [ByteArray.size_extract]; omega)
    split at h
    · cases h
    · split at h
      · injection h with h
        have hd : m.d.size = (get4 (t.extract 5 9)).toNat := by
          rw [← h]; simp only [ByteArray.size_extract]; omega
        have hw : IntKind.u32.wrap (m.d.size : Int) = get4 (t.extract 5 9) := by rw [IntKind.wrap_u32]; omega
        have hmd : m.d = t.extract 9 (9 + m.d.size) := by rw [hd, ← h]
        have hmf : m.f = byteAt t 0 := by rw [← h]
        have hmc : m.c = get4 (t.extract 1 5) := by rw [← h]
        have e : encB m = t.extract 0 (9 + m.d.size) := by
          unfold encB
          rw [hw, hmf, hmc, by1_get t (by omega), p1, p2]
          conv => lhs; rw [hmd]
          rw [ext_app _ _ _ _ (by omega) (by omega), ext_app _ _ _ _ (by omega) (by omega), ext_app _ _ _ _ (by omega) (by omega)]
        rw [e, ext_app _ _ _ _ (by omega) (by omega)]
        apply dl_ext
        rw [dl_extract, ← dl_len, List.take_length]; rfl
      · cases h
theorem unpF_back : ∀ (k : Nat) (t : ByteArray) (l : List Ms), unpF k t = some l → t = flatB l ∧ l.length = k ∧ l.all rightB = true
  | 0, t, l, h => by
    unfold unpF at h
    split at h
    · injection h with h
      subst h
      refine ⟨dl_ext ?_, rfl, rfl⟩
      have : (Dl t).length = 0 := by rw [dl_len]; assumption
      rw [List.length_eq_zero_iff.1 this]; rfl
    · cases h
  | k + 1, t, l, h => by
    rw [unpF] at h
    cases hf : firstF t with
    | none => rw [hf] at h; cases h
    | some m =>
      rw [hf] at h
      simp only at h
      cases hu : unpF k (t.extract (9 + m.d.size) t.size) with
      | none => rw [hu] at h; cases h
      | some r =>
        rw [hu] at h
        injection h with h
        subst h
        obtain ⟨h1, h2, h3⟩ := unpF_back k _ r hu
        refine ⟨?_, by rw [List.length_cons, h2], by rw [List.all_cons, h3, (firstF_size hf).2]; rfl⟩
        show t = encB m ++ flatB r
        rw [← h1]
        exact firstF_back hf
theorem unp_back {t : ByteArray} {l : List Ms} (h : unp t = some l) : packE l = 0 ∧ packS l = t ∧ l.length ≤ 64 := by
  unfold unp at h
  split at h
  · cases h
  · obtain ⟨h1, h2, h3⟩ := unpF_back _ _ _ h
    have hb := byteAt_lt t 0
    have hl : (l.length : Int) = byteAt t 0 := by omega
    have hE : packE l = 0 := by unfold packE; rw [if_neg (by omega), if_pos h3]
    refine ⟨hE, ?_, by omega⟩
    rw [packS_eq hE, hl, ← h1, by1_get t (by omega), ext_app _ _ _ _ (by omega) (by omega)]
    apply dl_ext
    rw [dl_extract, ← dl_len, List.take_length]; rfl
theorem unpL_len (t : ByteArray) : (unpL t).length ≤ 64 := by
  cases h : unp t with
  | none => rw [(unp_none h).2]; simp
  | some l => rw [(unp_some h).2]; exact (unp_back h).2.2
theorem packS_size (l : List Ms) : (packS l).size ≤ 100000 := by
  by_cases h : packE l = 0
  · obtain ⟨h1, h2⟩ := packE_zero h
    unfold packS
    rw [if_pos h, strOfNums_size]
    have := (cat_parts l.length l (fun m hm => List.all_eq_true.1 h2 m hm)).2
    omega
  · unfold packS; rw [if_neg h]; decide
end Go.Proofs.Ytbjondnombnpbaa
