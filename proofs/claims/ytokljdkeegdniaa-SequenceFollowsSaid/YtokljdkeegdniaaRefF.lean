/-
  rostrumref11.Follower: where it lies; find, without.
-/
import Derived.Test.YtokljdkeegdniaaAny
namespace Go.Proofs.Ytokljdkeegdniaa
open Go.RowKit
attribute [local go_sem] Oper.semAt_some

/-! ### plain: places in a list -/
theorem pos_first {K : Type} [DecidableEq K] {k : K} : ∀ {l : List K} {i : Nat}, l[i]? = some k → (∀ j, j < i → l[j]? ≠ some k) → pos k l = some i
  | [], i, h, _ => by simp at h
  | x :: t, 0, h, _ => by
    simp at h
    unfold pos
    rw [if_pos h]
  | x :: t, i + 1, h, hn => by
    have h0 : x ≠ k := fun e => hn 0 (Nat.succ_pos i) (by simp [e])
    unfold pos
    rw [if_neg h0, pos_first (l := t) (i := i) (by simpa using h) (fun j hj => by simpa using hn (j + 1) (by omega))]
    rfl
theorem pos_no {K : Type} [DecidableEq K] {k : K} : ∀ {l : List K}, (∀ (j : Nat), l[j]? ≠ some k) → pos k l = none
  | [], _ => rfl
  | x :: t, hn => by
    have h0 : x ≠ k := fun e => hn 0 (by simp [e])
    unfold pos
    rw [if_neg h0, pos_no (l := t) (fun j => by simpa using hn (j + 1))]
    rfl
def posZ (k : Int × Int) (kv : List ((Int × Int) × Ms)) : Int := match pos k (kv.map (·.1)) with
  | some i => (i : Int)
  | none => -1
theorem posZ_some {k : Int × Int} {kv : List ((Int × Int) × Ms)} {v : Ms} (h : kfind k kv = some v) : ∃ i : Nat, posZ k kv = i ∧ i < kv.length ∧ kv[i]? = some (k, v) ∧ kdel k kv = kv.eraseIdx i := by
  unfold posZ
  cases hp : pos k (kv.map (·.1)) with
  | none => rw [(pos_none hp).1] at h; cases h
  | some i =>
    obtain ⟨u, h1, h2, -, h4⟩ := pos_some hp
    rw [h2] at h
    injection h with h
    subst h
    exact ⟨i, rfl, (List.getElem?_eq_some_iff.1 h1).1, h1, h4⟩
theorem posZ_none {k : Int × Int} {kv : List ((Int × Int) × Ms)} (h : kfind k kv = none) : posZ k kv = -1 := by
  unfold posZ
  cases hp : pos k (kv.map (·.1)) with
  | none => rfl
  | some i =>
    obtain ⟨u, h1, h2, -, h4⟩ := pos_some hp
    rw [h2] at h
    cases h
theorem posZ_neg {k : Int × Int} {kv : List ((Int × Int) × Ms)} : decide (posZ k kv < 0) = !(kfind k kv).isSome := by
  cases h : kfind k kv with
  | none => rw [posZ_none h]; rfl
  | some v =>
    obtain ⟨i, e, -⟩ := posZ_some h
    rw [e]
    simp

/-! ### slices of numbered messages -/
def sdropN (A : Option Addr) (n cap i : Nat) : Value := .slice (if cap = i then A else A.map (·.add (i * 5))) (n - i) (cap - i)
theorem add_at' (b off n : Nat) : (⟨b, off, none⟩ : Addr).add n = ⟨b, off + n, none⟩ := by
  unfold Addr.add
  by_cases h : n = 0
  · simp [h]
  · simp [h]
theorem Sl.dropN {w : World} {A : Option Addr} {cap : Nat} {l : List Nb} (h : NbL w (.slice A l.length cap) l) (i : Nat) (hi : i ≤ l.length) : NbL w (sdropN A l.length cap i) (l.drop i) := by
  obtain ⟨A', cap', e, h1, h2, h3⟩ := h
  injection e with e1 e2 e3
  subst e1; subst e3
  refine ⟨_, cap - i, by unfold sdropN; rw [List.length_drop], by rw [List.length_drop]; omega, by omega, fun hne => ?_⟩
  have hil : i < l.length := by
    refine Classical.byContradiction fun h => hne ?_
    exact List.drop_eq_nil_of_le (by omega)
  obtain ⟨b, off, rfl, hb, hc⟩ := h3 (fun e => by rw [e] at hil; simp at hil)
  refine ⟨b, off + i * 5, by rw [if_neg (by omega)]; exact congrArg some (add_at' b off (i * 5)), hb, fun j m hj k u hu => ?_⟩
  rw [List.getElem?_drop] at hj
  have := hc (i + j) m hj k u hu
  rw [← this]; congr 2; rw [Nat.add_mul]; omega
theorem Sl.takeN {w : World} {A : Option Addr} {cap : Nat} {l : List Nb} (h : NbL w (.slice A l.length cap) l) (n : Nat) (hn : n ≤ l.length) : NbL w (.slice A n cap) (l.take n) := by
  obtain ⟨A', cap', e, h1, h2, h3⟩ := h
  injection e with e1 e2 e3
  subst e1; subst e3
  have hl : (l.take n).length = n := by rw [List.length_take]; omega
  refine ⟨A, cap, by rw [hl], by omega, h2, fun hne => ?_⟩
  obtain ⟨b, off, rfl, hb, hc⟩ := h3 (fun e => hne (by rw [e]; simp))
  refine ⟨b, off, rfl, hb, fun j m hj i u hu => hc j m ?_ i u hu⟩
  rw [List.getElem?_take] at hj
  split at hj
  · exact hj
  · cases hj
section
variable {ρ : Operand → Value} {d : Option Tmp} {x y : Operand} {t : TypeId} {s : String} {af : Array Edge} {g : Option (Nat × Bool)}
theorem op_dropN (A : Option Addr) (n cap i : Nat) (j : Int) (hx : ρ x = .slice A n cap) (hy : ρ y = .int .i64 j) (hj : j = i) (h : i ≤ n) (w : World) :
    (execOp ρ ⟨d, .slice 28 x (some y) none none, t, s, af, g⟩).run Try.prog w = .ok (.value (sdropN A n cap i)) w := by
  subst hj
  have hI : (i : Int) ≤ (n : Int) := by omega
  have h1 : (Instr.sliceAt 28 (.slice A n cap) (some (.int .i64 i)) none none).run Try.prog w = .ok (sdropN A n cap i) w := by
    unfold sdropN
    first | (go_simp; done) | (go_simp; rfl)
  simp only [execOp, hx, hy, Option.map_some, Option.map_none, Sem.run_bind, h1, Result.andThen_ok]
  first | rfl | simp [Sem.run]
theorem op_takeN (A : Option Addr) (n cap i : Nat) (j : Int) (hx : ρ x = .slice A n cap) (hy : ρ y = .int .i64 j) (hj : j = i) (h : i ≤ cap) (w : World) :
    (execOp ρ ⟨d, .slice 28 x none (some y) none, t, s, af, g⟩).run Try.prog w = .ok (.value (.slice A i cap)) w := by
  subst hj
  have hI : (i : Int) ≤ (cap : Int) := by omega
  have h1 : (Instr.sliceAt 28 (.slice A n cap) none (some (.int .i64 i)) none).run Try.prog w = .ok (.slice A i cap) w := by
    first | (go_simp; done) | (go_simp; rfl)
  simp only [execOp, hx, hy, Option.map_some, Option.map_none, Sem.run_bind, h1, Result.andThen_ok]
  first | rfl | simp [Sem.run]
end

/-! ### find, without -/
set_option maxRecDepth 100000 in
set_option maxHeartbeats 1600000 in
theorem find_ref {w : World} {v : Value} (kv : List ((Int × Int) × Ms)) (hl : NbL w v (kv.map nbOf)) (hlen : kv.length ≤ 1000000) (e n : Int) :
    Calls Try.prog 33 #[v, .int .u32 e, .int .u32 n] w fun x w' => x = .returned (.int .i64 (posZ (e, n) kv)) ∧ Ext w w' := by
  obtain ⟨A, cap, rfl, -⟩ := hl.val
  rw [List.length_map] at hl ⊢
  have HL := Lib.hid hl
  obtain ⟨z, hz⟩ : ∃ z, posZ (e, n) kv = z := ⟨_, rfl⟩
  have Hz := Lib.hid hz
  rw [hz]
  clear hl hz
  go_enter Try.func33, Try.ntmps33
  go_wp2
  go_loopw [7] (fun q wr => ∃ k : Nat, k ≤ kv.length ∧ q = .int .i64 k ∧ Hid (∀ j, j < k → (kv.map (·.1))[j]? ≠ some (e, n)) ∧ Hid (Ext w wr)) (fun q _ => kv.length - (intOf q).toNat)
  case atStart => exact ⟨0, Nat.zero_le _, rfl, Lib.hid (fun j hj => by omega), Lib.hid (Ext.refl _)⟩
  case round =>
    obtain ⟨k, hk, rfl, hno, hE⟩ := hrel
    by_cases hlt : k < kv.length
    · have hwk : IntKind.i64.wrap ((k : Int) + 1) = (k : Int) + 1 := IntWalk.i64_in _ ⟨by omega, by omega⟩
      obtain ⟨jb, joff, rfl, jl, jc⟩ := Sl.atN (HL.out.ext hE.out) (j := k) (by rw [List.length_map]; exact hlt)
      have j0 := jc.c0
      have j1 := jc.c1
      rw [List.getElem_map] at j0 j1
      obtain ⟨p, hp⟩ : ∃ p, kv[k] = p := ⟨_, rfl⟩
      rw [hp] at j0 j1
      have hpk : (kv.map (·.1))[k]? = some p.1 := by rw [List.getElem?_map, List.getElem?_eq_getElem hlt, hp]; rfl
      have Hpk := Lib.hid hpk
      obtain ⟨⟨pe, pn⟩, m⟩ := p
      simp only [nbOf] at j0 j1
      obtain ⟨q1, hq1⟩ : ∃ q, (pe == e) = q := ⟨_, rfl⟩
      obtain ⟨q2, hq2⟩ : ∃ q, (pn == n) = q := ⟨_, rfl⟩
      have Hq1 := Lib.hid hq1
      have Hq2 := Lib.hid hq2
      clear jc hp hpk
      have hnext : ¬ (pe = e ∧ pn = n) → ∀ j, j < k + 1 → (kv.map (·.1))[j]? ≠ some (e, n) := fun hne j hj => by
        by_cases hjk : j < k
        · exact hno.out j hjk
        · have : j = k := by omega
          subst this
          rw [Hpk.out]
          intro h
          simp only [Option.some.injEq, Prod.mk.injEq] at h
          exact hne h
      have Hnext := Lib.hid hnext
      clear hnext
      cases q1 with
      | false =>
        go_wp2
        go_roundw
        case rel => exact ⟨k + 1, by omega, by go_num, Lib.hid (Hnext.out (fun h => by have := Hq1.out; simp [h.1] at this)), hE⟩
        case measure => simp [intOf]; omega
      | true =>
        cases q2 with
        | false =>
          go_wp2
          go_roundw
          case rel => exact ⟨k + 1, by omega, by go_num, Lib.hid (Hnext.out (fun h => by have := Hq2.out; simp [h.2] at this)), hE⟩
          case measure => simp [intOf]; omega
        | true =>
          have e1 : pe = e := by simpa using Hq1.out
          have e2 : pn = n := by simpa using Hq2.out
          have hzk : z = (k : Int) := by
            rw [← Hz.out]
            unfold posZ
            rw [pos_first (i := k) (by rw [Hpk.out, e1, e2]) hno.out]
          have Hzk := Lib.hid hzk
          clear e1 e2 hzk
          go_wp2
          go_ret
          exact ⟨by rw [Hzk.out]; rfl, hE.out⟩
    · have hzk : z = -1 := by
        rw [← Hz.out]
        unfold posZ
        rw [pos_no (fun j => ?_)]
        by_cases hj : j < k
        · exact hno.out j hj
        · rw [List.getElem?_eq_none (by rw [List.length_map]; omega)]; simp
      subst hzk
      go_wp2
      go_ret
      exact ⟨rfl, hE.out⟩
def WithoutR (w : World) (l : List Nb) (i : Nat) (e : Ending) (w' : World) : Prop := ∃ v', e = .returned v' ∧ OwnNb w' v' (l.eraseIdx i) ∧ Ext w w' ∧ ∀ x, v'.ownBlock = some x → w.heap.size ≤ x
set_option maxRecDepth 100000 in
set_option maxHeartbeats 1600000 in
theorem without_ref {w : World} {v : Value} (l : List Nb) (hl : NbL w v l) (hlen : l.length ≤ 1000000) (i : Nat) (hi : i < l.length) :
    Calls Try.prog 34 #[v, .int .i64 i] w (WithoutR w l i) := by
  obtain ⟨A, cap, rfl, hc, -⟩ := hl.val
  have HS1 := Lib.hid (hl.takeN i (by omega))
  have HS2 := Lib.hid (hl.dropN (i + 1) (by omega))
  have hnc : i ≤ cap := by omega
  have hwn : IntKind.i64.wrap ((i : Int) + 1) = (i : Int) + 1 := IntWalk.i64_in _ ⟨by omega, by omega⟩
  have HLn := Lib.hid hlen
  clear hl
  go_enter Try.func34, Try.ntmps34
  go_upto_region 2 with fail
  refine wp_region_line [(0,0),(1,0),(2,0),(3,0),(4,3),(5,0)] (by kernel_rfl) (by kernel_rfl) (Ext w) (fun _ _ h k => h.trans k) (Ext.refl _) ?_
  iterate 3
    first
      | refine Fx.skip rfl rfl (by simp only [List.set_cons_zero, List.set_cons_succ]; rfl) ?_
      | (with_reducible refine Fx.lab0 ?_
         first
           | refine Fx.moveT rfl rfl rfl (by simp only [List.set_cons_zero, List.set_cons_succ]; rfl) ?_
           | refine Fx.assignT rfl rfl rfl (by simp only [List.set_cons_zero, List.set_cons_succ]; rfl) ?_
           | refine Fx.pure_ rfl rfl (fun _ => by go_simp; first | done | rfl) (by simp only [List.set_cons_zero, List.set_cons_succ]; rfl) ?_)
      | (with_reducible refine Fx.lab1 ?_
         refine Fx.look rfl rfl (fun w' hC => by obtain ⟨hc, hf, hl⟩ := Ext.cells hC; go_simp; rfl) (by simp only [List.set_cons_zero, List.set_cons_succ]; rfl) ?_)
  refine Fx.pure_ rfl rfl (fun w => op_takeN A l.length cap i i rfl rfl rfl hnc w) (by simp only [List.set_cons_zero, List.set_cons_succ]; rfl) ?_
  refine Fx.eff (fun v' w' => OwnNb w' v' ([] ++ l.take i) ∧ Mods (fun c => Value.ownBlock (.slice none 0 0) = some c) w w' ∧ (∀ c, v'.ownBlock = some c → Value.ownBlock (.slice none 0 0) = some c ∨ w.heap.size ≤ c)) (fun v _ _ h k => ⟨h.1.ext k, h.2.1.then_ k, h.2.2⟩) rfl rfl
    (fun w' hC => stepAt_appendN hC Own.nil (HS1.out.ext hC) (by have := HLn.out; simp; omega) rfl rfl) (fun v2 => ?_)
  simp only [List.set_cons_zero, List.set_cons_succ]
  first
    | refine Fx.skip rfl rfl (by simp only [List.set_cons_zero, List.set_cons_succ]; rfl) ?_
    | (with_reducible refine Fx.lab0 ?_
       first
         | refine Fx.moveT rfl rfl rfl (by simp only [List.set_cons_zero, List.set_cons_succ]; rfl) ?_
         | refine Fx.assignT rfl rfl rfl (by simp only [List.set_cons_zero, List.set_cons_succ]; rfl) ?_
         | refine Fx.pure_ rfl rfl (fun _ => by go_simp; first | done | rfl) (by simp only [List.set_cons_zero, List.set_cons_succ]; rfl) ?_)
    | (with_reducible refine Fx.lab1 ?_
       refine Fx.look rfl rfl (fun w' hC => by obtain ⟨hc, hf, hl⟩ := Ext.cells hC; go_simp; rfl) (by simp only [List.set_cons_zero, List.set_cons_succ]; rfl) ?_)
  refine Fx.done (fun w8 hC => ?_)
  obtain ⟨hA1, hA2, hA3⟩ := hC
  have hE8 : Ext w w8 := hA2.ext_of (fun x hx h => by simp [Value.ownBlock] at h)
  have HA1 := Lib.hid hA1
  have HA3 : Hid (∀ c, v2.ownBlock = some c → w.heap.size ≤ c) := Lib.hid (fun c hc => (hA3 c hc).elim (fun h => by simp [Value.ownBlock] at h) id)
  have HE8 := Lib.hid hE8
  have HS28 := Lib.hid (HS2.out.ext hE8)
  clear hA1 hA2 hA3 hE8
  go_upto_region 3 with fail
  refine wp_region_line [(0,0),(1,0),(2,0),(3,0),(4,0),(5,3),(6,0)] (by kernel_rfl) (by kernel_rfl) (Ext w8) (fun _ _ h k => h.trans k) (Ext.refl _) ?_
  iterate 4
    first
      | refine Fx.skip rfl rfl (by simp only [List.set_cons_zero, List.set_cons_succ]; rfl) ?_
      | (with_reducible refine Fx.lab0 ?_
         first
           | refine Fx.moveT rfl rfl rfl (by simp only [List.set_cons_zero, List.set_cons_succ]; rfl) ?_
           | refine Fx.assignT rfl rfl rfl (by simp only [List.set_cons_zero, List.set_cons_succ]; rfl) ?_
           | refine Fx.pure_ rfl rfl (fun _ => by go_simp; first | done | rfl) (by simp only [List.set_cons_zero, List.set_cons_succ]; rfl) ?_)
      | (with_reducible refine Fx.lab1 ?_
         refine Fx.look rfl rfl (fun w' hC => by obtain ⟨hc, hf, hl⟩ := Ext.cells hC; go_simp; rfl) (by simp only [List.set_cons_zero, List.set_cons_succ]; rfl) ?_)
  refine Fx.pure_ rfl rfl (fun w => op_dropN A l.length cap (i + 1) ((i : Int) + 1) rfl rfl (by omega) (by omega) w) (by simp only [List.set_cons_zero, List.set_cons_succ]; rfl) ?_
  refine Fx.eff (fun v' w' => OwnNb w' v' (([] ++ l.take i) ++ l.drop (i + 1)) ∧ Mods (fun c => v2.ownBlock = some c) w8 w' ∧ (∀ c, v'.ownBlock = some c → v2.ownBlock = some c ∨ w8.heap.size ≤ c)) (fun v _ _ h k => ⟨h.1.ext k, h.2.1.then_ k, h.2.2⟩) rfl rfl
    (fun w' hC => stepAt_appendN hC (HA1.out.ext hC) (HS28.out.ext hC) (by have := HLn.out; simp; omega) rfl rfl) (fun v3 => ?_)
  simp only [List.set_cons_zero, List.set_cons_succ]
  first
    | refine Fx.skip rfl rfl (by simp only [List.set_cons_zero, List.set_cons_succ]; rfl) ?_
    | (with_reducible refine Fx.lab0 ?_
       first
         | refine Fx.moveT rfl rfl rfl (by simp only [List.set_cons_zero, List.set_cons_succ]; rfl) ?_
         | refine Fx.assignT rfl rfl rfl (by simp only [List.set_cons_zero, List.set_cons_succ]; rfl) ?_
         | refine Fx.pure_ rfl rfl (fun _ => by go_simp; first | done | rfl) (by simp only [List.set_cons_zero, List.set_cons_succ]; rfl) ?_)
    | (with_reducible refine Fx.lab1 ?_
       refine Fx.look rfl rfl (fun w' hC => by obtain ⟨hc, hf, hl⟩ := Ext.cells hC; go_simp; rfl) (by simp only [List.set_cons_zero, List.set_cons_succ]; rfl) ?_)
  refine Fx.done (fun w9 hC => ?_)
  obtain ⟨hA1, hA2, hA3⟩ := hC
  have hE9 : Ext w w9 := ((HE8.out.mods _).trans hA2 (fun _ _ h => h)).ext_of (fun x hx h => by have := HA3.out x h; omega)
  have HB1 : Hid (OwnNb w9 v3 (l.eraseIdx i)) := Lib.hid (by rw [List.eraseIdx_eq_take_drop_succ]; simpa using hA1)
  have HB3 : Hid (∀ c, v3.ownBlock = some c → w.heap.size ≤ c) := Lib.hid (fun c hc => (hA3 c hc).elim (HA3.out c) (fun h => Nat.le_trans HE8.out.size h))
  have HE9 := Lib.hid hE9
  clear hA1 hA2 hA3 hE9
  go_wp2
  go_ret
  exact ⟨v3, rfl, HB1.out, HE9.out, HB3.out⟩
end Go.Proofs.Ytokljdkeegdniaa
