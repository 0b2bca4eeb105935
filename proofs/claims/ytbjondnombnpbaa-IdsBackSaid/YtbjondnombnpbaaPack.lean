/-
  ids.Pack: a batch's bytes.
-/
import Derived.Test.YtbjondnombnpbaaJoin
import Derived.Test.YtbjondnombnpbaaVals
import Derived.Test.YtbjondnombnpbaaTake
import Derived.Scope
namespace Go.Proofs.Ytbjondnombnpbaa
open Go.RowKit
attribute [local go_sem] Oper.semAt_some

/-! ### slices of strings -/
theorem infoSt : (Try.prog.info? 9).map (fun i => (i.zero, i.size, i.bytes)) = some (some (.string ⟨#[]⟩), 1, 16) := by kernel_rfl
abbrev OwnSt (w : World) (v : Value) (l : List ByteArray) : Prop := Own strE 1 9 w v l
theorem OwnSt.append {w : World} {v : Value} {l m : List ByteArray} {x : Value} {ty : TypeId} (h : OwnSt w v l) (hx : StL w x m) (hlen : l.length + m.length ≤ 1073741824) :
    ∃ v' w', (Builtin.append_ #[60, 60] ty #[v, x]).run Try.prog w = .ok v' w' ∧ OwnSt w' v' (l ++ m) ∧ Mods (fun b => v.ownBlock = some b) w w' ∧
      (∀ b, v'.ownBlock = some b → v.ownBlock = some b ∨ w.heap.size ≤ b) := by
  obtain ⟨i0, hi, hz0, hz1, hz2⟩ := info_parts infoSt
  exact Own.append strE_len strE_one (by decide) Try.underlying60 hi hz0 hz1 rfl h hx hlen (by rw [hz2]; decide)
section
variable {a : Act} {d : Option Tmp} {t : TypeId} {s : String} {af : Array Edge} {g : Option (Nat × Bool)} {W w : World}
theorem run_lit1S (x : ByteArray) (w : World) : (Instr.buildSlice 60 1 #[(0, .string x)]).run Try.prog w = .ok (.slice (some ⟨w.heap.size, 0, none⟩) 1 1) (w.alloc (.cells #[.string x] 9)) := by
  simp [go_sem, Try.zeroValue9, Try.sizeOf9, Instr.buildSlice, run_underlying Try.underlying60]
theorem stepAt_lit1S {x : Operand} (hC : Ext W w) (m : ByteArray) (hx : a.eval x = .string m) :
    stepAt Try.prog ⟨d, .buildSlice 60 1 #[(0, x)], t, s, af, g⟩ a w (fun u w' => ∃ b, u = .slice (some ⟨b, 0, none⟩) 1 1 ∧ Ext w w' ∧ (W.heap.size ≤ b ∧ OwnSt w' (.slice (some ⟨b, 0, none⟩) 1 1) [m])) := by
  unfold stepAt
  simp only [execOp, Sem.run_bind, List.map_toArray, List.map_cons, List.map_nil, hx, run_lit1S m w, Result.andThen_ok]
  exact ⟨_, rfl, Ext.alloc _ _, hC.size, Own.lit (enc := strE) strE_len w [m] (by unfold maxLen; simp) (by simp) (cs := strE m) (by simp)⟩
theorem run_lit4S (x y z u : ByteArray) (w : World) : (Instr.buildSlice 60 4 #[(0, .string x), (1, .string y), (2, .string z), (3, .string u)]).run Try.prog w = .ok (.slice (some ⟨w.heap.size, 0, none⟩) 4 4) (w.alloc (.cells #[.string x, .string y, .string z, .string u] 9)) := by
  simp [go_sem, Try.zeroValue9, Try.sizeOf9, Instr.buildSlice, run_underlying Try.underlying60]
theorem stepAt_lit4S {p q r o : Operand} {x y z u : ByteArray} (hC : Ext W w) (hp : a.eval p = .string x) (hq : a.eval q = .string y) (hr : a.eval r = .string z) (ho : a.eval o = .string u) :
    stepAt Try.prog ⟨d, .buildSlice 60 4 #[(0, p), (1, q), (2, r), (3, o)], t, s, af, g⟩ a w (fun v w' => ∃ b, v = .slice (some ⟨b, 0, none⟩) 4 4 ∧ Ext w w' ∧ StL w' (.slice (some ⟨b, 0, none⟩) 4 4) [x, y, z, u]) := by
  unfold stepAt
  simp only [execOp, Sem.run_bind, List.map_toArray, List.map_cons, List.map_nil, hp, hq, hr, ho, run_lit4S x y z u w, Result.andThen_ok]
  exact ⟨_, rfl, Ext.alloc _ _, (Own.lit (enc := strE) strE_len w [x, y, z, u] (by unfold maxLen; simp) (by simp) (cs := [.string x, .string y, .string z, .string u]) (by simp [strE])).sl strE_len⟩
theorem stepAt_appendS {q x : Operand} {v xv : Value} {l m : List ByteArray} (hC : Ext W w) (h : OwnSt w v l) (hx : StL w xv m) (hlen : l.length + m.length ≤ 1073741824) (hq : a.eval q = v) (hxe : a.eval x = xv) :
    stepAt Try.prog ⟨d, .call { callee := .builtin .append, args := #[q, x], argTypes := #[60, 60] }, t, s, af, g⟩ a w
      (fun v' w' => OwnSt w' v' (l ++ m) ∧ Mods (fun b => v.ownBlock = some b) W w' ∧ (∀ b, v'.ownBlock = some b → v.ownBlock = some b ∨ W.heap.size ≤ b)) := by
  obtain ⟨v', w', hr, h1, h2, h3⟩ := h.append hx hlen (ty := t)
  unfold stepAt
  simp only [execOp, resolve, invoke, builtin, Sem.run_bind, Sem.run_pure, Result.andThen_ok, List.map_toArray, List.map_cons, List.map_nil, hq, hxe, hr]
  exact ⟨h1, h2.after hC, fun b hb => (h3 b hb).imp id (fun hh => Nat.le_trans hC.size hh)⟩
end

/-! ### what Pack answers -/
def by1 (n : Int) : ByteArray := strOfNums [IntKind.u8.wrap n]
def put4 (n : Int) : ByteArray := strOfNums (putL n)
def pieces (m : Ms) : List ByteArray := [by1 m.f, put4 m.c, put4 (IntKind.u32.wrap m.d.size), m.d]
def partsL (n : Int) (l : List Ms) : List ByteArray := by1 n :: l.flatMap pieces
def packE (l : List Ms) : Int := if 64 < l.length then 101 else if l.all rightB then 0 else 100
def packS (l : List Ms) : ByteArray := if packE l = 0 then strOfNums (catI (partsL l.length l)) else ⟨#[]⟩
theorem partsL_snoc (n : Int) (l : List Ms) (m : Ms) : partsL n (l ++ [m]) = partsL n l ++ pieces m := by simp [partsL]
theorem partsL_len (n : Int) (l : List Ms) : (partsL n l).length = 1 + 4 * l.length := by
  unfold partsL
  rw [List.length_cons]
  have : (l.flatMap pieces).length = 4 * l.length := by
    induction l with
    | nil => rfl
    | cons x t ih => rw [List.flatMap_cons, List.length_append, ih, List.length_cons]; simp only [pieces, List.length_cons, List.length_nil]; omega
  omega
theorem strOfNums_bytesI (xs : List Int) : (bytesI (strOfNums xs)).length = xs.length := by rw [bytesI_len]; exact strOfNums_size xs
theorem len_by1 (n : Int) : (bytesI (by1 n)).length = 1 := strOfNums_bytesI _
theorem len_put4 (n : Int) : (bytesI (put4 n)).length = 4 := strOfNums_bytesI _
theorem cat_pieces (m : Ms) : (catI (pieces m)).length = 9 + m.d.size := by
  have e : catI (pieces m) = bytesI (by1 m.f) ++ (bytesI (put4 m.c) ++ (bytesI (put4 (IntKind.u32.wrap m.d.size)) ++ bytesI m.d)) := by simp [catI, pieces]
  rw [e, List.length_append, List.length_append, List.length_append, len_by1, len_put4, len_put4, bytesI_len]
  omega
theorem cat_parts (n : Int) : ∀ (l : List Ms), (∀ m ∈ l, rightB m = true) → 0 < (catI (partsL n l)).length ∧ (catI (partsL n l)).length ≤ 1 + 1009 * l.length
  | [], _ => by simp [partsL, catI, by1, strOfNums_bytesI]
  | m :: t, h => by
    have ih := cat_parts n t (fun x hx => h x (List.mem_cons_of_mem _ hx))
    have hm := rightB_iff.1 (h m (List.mem_cons_self ..))
    have e : catI (partsL n (m :: t)) = bytesI (by1 n) ++ (catI (pieces m) ++ catI (t.flatMap pieces)) := by simp [partsL, catI]
    have e2 : catI (partsL n t) = bytesI (by1 n) ++ catI (t.flatMap pieces) := by simp [partsL, catI]
    have c := cat_pieces m
    rw [e2, List.length_append] at ih
    rw [e, List.length_append, List.length_append, c, List.length_cons]
    omega

def ValuesR (w : World) (v : Value) (e : Ending) (w' : World) : Prop :=
  ∃ Bn, e = .returned (.func (.func 41) #[] #[.pointer (some ⟨Bn, 0, none⟩)]) ∧ Ext w w' ∧ w.heap.size ≤ Bn ∧ Obj_ w' Bn 1 (fun _ => v)
theorem values_at (w : World) (A : Option Addr) (n cap : Nat) : Calls Try.prog 29 #[.slice A n cap] w (ValuesR w (.slice A n cap)) := by
  have o1 := Obj_.new w 22 #[.slice A n cap] (fun _ => .slice A n cap) (by intro i hi; simp at hi; subst hi; rfl)
  have E1 := Ext.alloc w (.cells #[.slice A n cap] 22)
  have O1 := Lib.hid o1
  have H1 := Lib.hid E1
  clear o1 E1
  go_enter Try.func29, Try.ntmps29
  go_wp2
  go_ret
  exact ⟨w.heap.size, rfl, H1.out, Nat.le_refl _, O1.out⟩

/-- Where the blocks lie. -/
structure PkP (w w0 : World) (B4 B5 : Nat) : Prop where
  ws : w.heap.size ≤ w0.heap.size
  a0 : w.heap.size ≤ B4
  a1 : B4 < w0.heap.size
  b0 : w.heap.size ≤ B5
  b1 : B5 < w0.heap.size
  ne : B4 ≠ B5
/-- Between two rounds. -/
structure PkI (w w0 : World) (B4 B5 : Nat) (n : Int) (L : List Ms) (k : Nat) (W : World) : Prop where
  ex : ∃ pv, Obj_ W B4 1 (fun _ => pv) ∧ OwnSt W pv (partsL n (L.take k)) ∧ ∀ y, pv.ownBlock = some y → ((w.heap.size ≤ y ∧ y < w0.heap.size) ∨ w0.heap.size + 2 ≤ y) ∧ y ≠ B4 ∧ y ≠ B5
  r : Obj_ W B5 1 (fun _ => .bool true)
  ok : ∀ m ∈ L.take k, rightB m = true
  e : Ext w W
structure PkX (w : World) (B5 : Nat) (L : List Ms) (c : Code) (k : Nat) (W : World) : Prop where
  jump : c = .exit 0
  bad : L.all rightB = false
  r : Obj_ W B5 1 (fun _ => .bool false)
  e : Ext w W
theorem PkI.bk {w w0 W W' : World} {B4 B5 : Nat} {n : Int} {L : List Ms} {k : Nat} (hP : PkP w w0 B4 B5) (h : PkI w w0 B4 B5 n L k W) (hm : Mods (Bk w0) W W') : PkI w w0 B4 B5 n L k W' := by
  obtain ⟨pv, h1, h2, h3⟩ := h.ex
  have := hP.a1; have := hP.b1; have := hP.ws
  refine ⟨⟨pv, h1.mods hm (by unfold Bk; omega), h2.mods hm (fun y hy => by have := h3 y hy; unfold Bk; omega), h3⟩, h.r.mods hm (by unfold Bk; omega), h.ok, ((h.e.mods _).trans hm (fun _ _ h => h)).ext_of (fun x hx h => by unfold Bk at h; omega)⟩
def pkL (A : Option Addr) (n cap B4 B5 Bq Bb Bs : Nat) (ds : ByteArray) (v6 v7 v19 : Value) : List Value :=
  [.slice A n cap, undef, .string ⟨#[]⟩, .int .i64 0, .pointer (some ⟨B4, 0, none⟩), .pointer (some ⟨B5, 0, none⟩), v6, v7, .slice A n cap, .int .i64 n, .bool false,
   .slice A n cap, .int .i64 n, .int .u8 (IntKind.u8.wrap n), .slice (some ⟨Bb, 0, none⟩) 1 1, .string ds, .slice (some ⟨Bs, 0, none⟩) 1 1, .slice A n cap, .func (.func 41) #[] #[.pointer (some ⟨Bq, 0, none⟩)], v19,
   undef, undef, undef, undef, undef, undef, undef, undef, undef, undef, undef, undef, undef, undef, undef, undef, undef, undef, undef, undef, undef, undef, undef, undef, undef, undef, undef, undef]
def PkA (w w0 : World) (A : Option Addr) (nL cap B4 B5 Bq Bb Bs : Nat) (ds : ByteArray) (L : List Ms) (k : Nat) (a' : Act) (W : World) : Prop :=
  PkI w w0 B4 B5 nL L k W ∧ ∃ B6, w0.heap.size + 2 ≤ B6 ∧ Obj_ W B6 3 (msF (L.getD k ms0)) ∧ a' = Act.mk (pkL A nL cap B4 B5 Bq Bb Bs ds (.pointer (some ⟨B6, 0, none⟩)) undef (L.getD k ms0).val).toArray []

def PackR (w : World) (L : List Ms) (e : Ending) (w' : World) : Prop := e = .returned (.tuple #[.string (packS L), .int .i64 (packE L)]) ∧ Ext w w'
theorem pack_long (w : World) (v : Value) (L : List Ms) (hl : MsL w v L) (h64 : 64 < L.length) : Calls Try.prog 17 #[v] w (PackR w L) := by
  obtain ⟨A, cap, rfl, hcap, hmax⟩ := hl.val
  have hlen : L.length ≤ 9223372036854775807 := Nat.le_trans hcap (Nat.le_trans hmax (by decide))
  have he : packE L = 101 := by unfold packE; rw [if_pos h64]
  have hs : packS L = ⟨#[]⟩ := by unfold packS; rw [he]; rfl
  have HE := Lib.hid he
  have HS := Lib.hid hs
  have hd : decide (64 < (L.length : Int)) = true := by simp; omega
  clear hl hcap hmax he hs
  go_enter Try.func17, Try.ntmps17
  go_wp2
  refine wp_scope_straight ?_
  go_wp2
  simp only [Exit.noGoto]
  go_ret2
  exact ⟨by rw [HE.out, HS.out]; rfl, Ext.refl _⟩
end Go.Proofs.Ytbjondnombnpbaa
