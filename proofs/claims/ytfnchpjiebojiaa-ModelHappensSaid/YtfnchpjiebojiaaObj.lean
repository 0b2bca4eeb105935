/-
  The model's object in memory, what its methods do to it as plain functions, and the contract of accept.
-/
import Derived.Test.YtfnchpjiebojiaaLeaf2
import Derived.Test.YtfnchpjiebojiaaMaps
namespace Go.Proofs.Ytfnchpjiebojiaa
open Go.RowKit

/-! ### plain -/
structure Hp where
  k : Int
  n : Int
  m : Ms
deriving DecidableEq
def Hp.enc (h : Hp) : List Value := [.int .i64 h.k, .int .i64 h.n, .int .i64 h.m.f, .int .u32 h.m.c, .string h.m.d]
def Hp.val (h : Hp) : Value := .agg #[.int .i64 h.k, .int .i64 h.n, .int .i64 h.m.f, .int .u32 h.m.c, .string h.m.d]
theorem Hp.len (h : Hp) : h.enc.length = 5 := rfl
theorem Hp.one (h : Hp) : ∀ u ∈ h.enc, u.oneCell' = true := by intro u hu; simp [Hp.enc] at hu; rcases hu with rfl | rfl | rfl | rfl | rfl <;> rfl

structure MSt where
  n : Nat
  acc : Nat → Int
  del : Nat → Nat
  lg : Nat → Int
  wt : List ((Int × Int) × Ms)
  log : List Ms
def updI {β : Type} (f : Nat → β) (i : Nat) (v : β) : Nat → β := fun j => if j = i then v else f j

def acceptS (σ : MSt) (nd : Nat) (m : Ms) : MSt := { σ with acc := updI σ.acc nd (σ.acc nd + 1), wt := kput (m.f, m.c) m σ.wt }
def acceptB (σ : MSt) (nd : Nat) (m : Ms) : Bool := rightB m && (decide (m.f = nd) && decide (m.c = σ.acc nd + 1))
def layS (σ : MSt) (x : Ms) : MSt := { σ with wt := kdel (x.f, x.c) σ.wt, lg := updI σ.lg x.f.toNat (σ.lg x.f.toNat + 1), log := σ.log ++ [x] }
def layB (σ : MSt) (x : Ms) : Bool := decide (kfind (x.f, x.c) σ.wt = some x) && decide (x.c = σ.lg x.f.toNat + 1)

structure MSt.Ok (σ : MSt) : Prop where
  n1 : 1 ≤ σ.n
  n16 : σ.n ≤ 16
  acc0 : ∀ i, 0 ≤ σ.acc i
  acc1 : ∀ i, σ.acc i ≤ 4294967294
  lg0 : ∀ i, 0 ≤ σ.lg i
  lg1 : ∀ i, σ.lg i ≤ 4294967294
  del : ∀ i, σ.del i ≤ σ.log.length
  keys : (σ.wt.map (·.1)).Nodup
  wt : ∀ p ∈ σ.wt, p.1 = (p.2.f, p.2.c) ∧ rightB p.2 = true

/-! ### in memory -/
def modF (sv mv lv : Value) (lg : Nat → Int) : Nat → Value := fun i => if i = 0 then sv else if i = 1 then mv else if i < 18 then .int .u32 (lg (i - 2)) else lv
def seatF (acc : Nat → Int) (del : Nat → Nat) : Nat → Value := fun i => if i % 2 = 0 then .int .u32 (acc (i / 2)) else .int .i64 (del (i / 2))
def idV (k : Int × Int) : Value := .agg #[.int .i64 k.1, .int .u32 k.2]

structure ModelAt (w : World) (b sb mb : Nat) (lv : Value) (σ : MSt) : Prop where
  obj : Obj_ w b 19 (modF (.slice (some ⟨sb, 0, none⟩) σ.n σ.n) (.map (some mb)) lv σ.lg)
  seats : Obj_ w sb (2 * σ.n) (seatF σ.acc σ.del)
  map : MapIs w mb idV Ms.val σ.wt
  log : OwnMs w lv σ.log
  d1 : b ≠ sb
  d2 : b ≠ mb
  d3 : sb ≠ mb
  d4 : ∀ x, lv.ownBlock = some x → x ≠ b ∧ x ≠ sb ∧ x ≠ mb
def FM (b sb mb : Nat) (lv : Value) (x : Nat) : Prop := x = b ∨ x = sb ∨ x = mb ∨ lv.ownBlock = some x

theorem ModelAt.mods {w w' : World} {b sb mb : Nat} {lv : Value} {σ : MSt} {S : Nat → Prop} (h : ModelAt w b sb mb lv σ) (he : Mods S w w') (hS : ∀ x, FM b sb mb lv x → ¬ S x) : ModelAt w' b sb mb lv σ :=
  ⟨h.obj.mods he (hS _ (.inl rfl)), h.seats.mods he (hS _ (.inr (.inl rfl))), h.map.mods he (hS _ (.inr (.inr (.inl rfl)))), h.log.mods he (fun x hx => hS _ (.inr (.inr (.inr hx)))), h.d1, h.d2, h.d3, h.d4⟩
theorem ModelAt.ext {w w' : World} {b sb mb : Nat} {lv : Value} {σ : MSt} (h : ModelAt w b sb mb lv σ) (he : Ext w w') : ModelAt w' b sb mb lv σ := h.mods (he.mods (fun _ => False)) (fun _ _ h => h)
theorem ModelAt.lt {w : World} {b sb mb : Nat} {lv : Value} {σ : MSt} (h : ModelAt w b sb mb lv σ) {x : Nat} (hx : FM b sb mb lv x) : x < w.heap.size := by
  rcases hx with rfl | rfl | rfl | hx
  · exact h.obj.lt
  · exact h.seats.lt
  · exact h.map.lt
  · exact h.log.lt hx

theorem run_equal_Id (w : World) (a b : Int × Int) : (Op.equal 32 (idV a) (idV b)).run Try.prog w = .ok (decide (a = b)) w := by
  have := run_equalIn_Id 9998 a.1 a.2 b.1 b.2 w
  unfold Op.equal idV
  rw [show Op.maxDepth = 9998 + 2 from rfl, this]
  congr 1
  obtain ⟨a1, a2⟩ := a
  obtain ⟨b1, b2⟩ := b
  by_cases h1 : a1 = b1 <;> by_cases h2 : a2 = b2 <;> simp [h1, h2]
theorem checkKey_Id (w : World) (em : Bool) (k : Int × Int) : (Instr.checkKey em 10000 32 (idV k)).run Try.prog w = .ok () w := by
  have h : ∀ n, (Instr.checkKey em (n + 2) 32 (idV k)).run Try.prog w = .ok () w := fun n => by
    unfold idV
    simp [Instr.checkKey, run_underlying Try.underlying32, run_underlying Try.underlying3, run_underlying Try.underlying30, part, Try.isAgg3, Try.isAgg30]
  exact h 9998
theorem keysId : KeyOps Try.prog 32 idV where
  find := findKey_asks _ Try.underlying32 (fun a b => rfl) run_equal_Id
  check := checkKey_Id
  stays w k := by
    have h : ∀ n, Instr.sameBits (n + 1) (idV k) (idV k) = true := fun n => by unfold idV; simp [Instr.sameBits]
    unfold Instr.keyThatStays
    rw [show (10000 : Nat) = 9999 + 1 from rfl, h]
    rfl
end Go.Proofs.Ytfnchpjiebojiaa
