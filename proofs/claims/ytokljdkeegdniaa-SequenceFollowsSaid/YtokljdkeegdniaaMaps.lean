/-
  A map's block as a list of pairs, in the order in which they came: look up, store, delete, len.
-/
import Derived.Test.YtokljdkeegdniaaMem
import Derived.Maps.RangeWalk
namespace Go.Proofs.Ytokljdkeegdniaa
open Go.RowKit

section
variable {K V : Type} [DecidableEq K]
def pos (k : K) : List K → Option Nat
  | [] => none
  | k' :: r => if k' = k then some 0 else (pos k r).map (· + 1)
def kfind (k : K) : List (K × V) → Option V
  | [] => none
  | p :: r => if p.1 = k then some p.2 else kfind k r
def kput (k : K) (v : V) : List (K × V) → List (K × V)
  | [] => [(k, v)]
  | p :: r => if p.1 = k then (k, v) :: r else p :: kput k v r
def kdel (k : K) : List (K × V) → List (K × V)
  | [] => []
  | p :: r => if p.1 = k then r else p :: kdel k r

theorem map_eraseIdx' {α β : Type} (f : α → β) : ∀ (l : List α) (i : Nat), (l.eraseIdx i).map f = (l.map f).eraseIdx i
  | [], _ => rfl
  | _ :: _, 0 => rfl
  | x :: l, i + 1 => by simp [map_eraseIdx' f l i]

theorem pos_none {k : K} {kv : List (K × V)} : pos k (kv.map (·.1)) = none → kfind k kv = none ∧ (∀ v, kput k v kv = kv ++ [(k, v)]) ∧ kdel k kv = kv := by
  induction kv with
  | nil => intro _; exact ⟨rfl, fun _ => rfl, rfl⟩
  | cons p r ih =>
    intro h
    simp only [List.map_cons, pos] at h
    by_cases hp : p.1 = k
    · rw [if_pos hp] at h; cases h
    · rw [if_neg hp] at h
      have h' : pos k (r.map (·.1)) = none := by simpa using h
      obtain ⟨h1, h2, h3⟩ := ih h'
      refine ⟨?_, fun v => ?_, ?_⟩
      · simp only [kfind, if_neg hp]; exact h1
      · simp only [kput, if_neg hp, h2 v]; rfl
      · simp only [kdel, if_neg hp, h3]
theorem pos_some {k : K} {kv : List (K × V)} : ∀ {i : Nat}, pos k (kv.map (·.1)) = some i → ∃ v, kv[i]? = some (k, v) ∧ kfind k kv = some v ∧ (∀ u, kput k u kv = kv.set i (k, u)) ∧ kdel k kv = kv.eraseIdx i := by
  induction kv with
  | nil => intro i h; simp [pos] at h
  | cons p r ih =>
    intro i h
    simp only [List.map_cons, pos] at h
    by_cases hp : p.1 = k
    · rw [if_pos hp] at h
      injection h with h
      subst h
      exact ⟨p.2, by rw [← hp]; rfl, by simp [kfind, hp], fun u => by simp [kput, hp], by simp [kdel, hp]⟩
    · rw [if_neg hp] at h
      obtain ⟨j, hj, rfl⟩ : ∃ j, pos k (r.map (·.1)) = some j ∧ i = j + 1 := by
        cases hq : pos k (r.map (·.1)) with
        | none => rw [hq] at h; cases h
        | some j => rw [hq] at h; injection h with h; exact ⟨j, rfl, h.symm⟩
      obtain ⟨v, h1, h2, h3, h4⟩ := ih hj
      exact ⟨v, by simpa using h1, by simp [kfind, hp, h2], fun u => by simp [kput, hp, h3 u], by simp [kdel, hp, h4]⟩

theorem kfind_put_self (k : K) (v : V) (kv : List (K × V)) : kfind k (kput k v kv) = some v := by
  induction kv with
  | nil => simp [kput, kfind]
  | cons p r ih => by_cases h : p.1 = k <;> simp [kput, kfind, h, ih]
theorem kfind_put_other {k j : K} (v : V) (kv : List (K × V)) (h : j ≠ k) : kfind j (kput k v kv) = kfind j kv := by
  induction kv with
  | nil => simp [kput, kfind, Ne.symm h]
  | cons p r ih =>
    by_cases hp : p.1 = k
    · simp [kput, kfind, hp, Ne.symm h]
    · by_cases hq : p.1 = j
      · simp only [kput, if_neg hp, kfind, if_pos hq]
      · simp only [kput, if_neg hp, kfind, if_neg hq, ih]
theorem kfind_none {k : K} {kv : List (K × V)} : kfind k kv = none ↔ k ∉ kv.map (·.1) := by
  induction kv with
  | nil => simp [kfind]
  | cons p r ih => by_cases h : p.1 = k <;> simp [kfind, h, ih]; intro _; exact Ne.symm h
theorem kfind_mem {k : K} {v : V} {kv : List (K × V)} (h : kfind k kv = some v) : (k, v) ∈ kv := by
  induction kv with
  | nil => simp [kfind] at h
  | cons p r ih =>
    by_cases hp : p.1 = k
    · simp [kfind, hp] at h; rw [← h, ← hp]; simp
    · simp [kfind, hp] at h; exact List.mem_cons_of_mem _ (ih h)
theorem kfind_of_mem {k : K} {v : V} {kv : List (K × V)} (hn : (kv.map (·.1)).Nodup) (h : (k, v) ∈ kv) : kfind k kv = some v := by
  induction kv with
  | nil => simp at h
  | cons p r ih =>
    simp only [List.map_cons, List.nodup_cons] at hn
    rcases List.mem_cons.1 h with rfl | h
    · simp [kfind]
    · have : p.1 ≠ k := fun e => hn.1 (by rw [e]; exact List.mem_map.2 ⟨_, h, rfl⟩)
      simp [kfind, this, ih hn.2 h]
theorem mem_kput {k : K} {v : V} {kv : List (K × V)} {p : K × V} (h : p ∈ kput k v kv) : p = (k, v) ∨ p ∈ kv := by
  induction kv with
  | nil => simp [kput] at h; exact .inl h
  | cons q r ih =>
    by_cases hq : q.1 = k
    · simp [kput, hq] at h; rcases h with h | h; exact .inl h; exact .inr (by simp [h])
    · simp [kput, hq] at h; rcases h with h | h; exact .inr (by simp [h]); rcases ih h with h | h; exact .inl h; exact .inr (by simp [h])
theorem keys_kput_sub {k : K} {v : V} {kv : List (K × V)} {j : K} (h : j ∈ (kput k v kv).map (·.1)) : j = k ∨ j ∈ kv.map (·.1) := by
  obtain ⟨p, hp, rfl⟩ := List.mem_map.1 h
  rcases mem_kput hp with rfl | hp
  · exact .inl rfl
  · exact .inr (List.mem_map.2 ⟨p, hp, rfl⟩)
theorem nodup_kput {k : K} {v : V} {kv : List (K × V)} (h : (kv.map (·.1)).Nodup) : ((kput k v kv).map (·.1)).Nodup := by
  induction kv with
  | nil => simp [kput]
  | cons q r ih =>
    simp only [List.map_cons, List.nodup_cons] at h
    by_cases hq : q.1 = k
    · simp only [kput, if_pos hq, List.map_cons, List.nodup_cons]; rw [hq] at h; exact h
    · simp only [kput, if_neg hq, List.map_cons, List.nodup_cons]
      exact ⟨fun hm => by rcases keys_kput_sub hm with e | e; exact hq e; exact h.1 e, ih h.2⟩
theorem mem_kdel {k : K} {kv : List (K × V)} {p : K × V} (h : p ∈ kdel k kv) : p ∈ kv := by
  induction kv with
  | nil => simp [kdel] at h
  | cons q r ih =>
    by_cases hq : q.1 = k
    · simp [kdel, hq] at h; simp [h]
    · simp [kdel, hq] at h; rcases h with h | h; simp [h]; simp [ih h]
theorem nodup_kdel {k : K} {kv : List (K × V)} (h : (kv.map (·.1)).Nodup) : ((kdel k kv).map (·.1)).Nodup := by
  induction kv with
  | nil => simp [kdel]
  | cons q r ih =>
    simp only [List.map_cons, List.nodup_cons] at h
    by_cases hq : q.1 = k
    · simp only [kdel, if_pos hq]; exact h.2
    · simp only [kdel, if_neg hq, List.map_cons, List.nodup_cons]
      refine ⟨fun hm => ?_, ih h.2⟩
      obtain ⟨p, hp, e⟩ := List.mem_map.1 hm
      exact h.1 (List.mem_map.2 ⟨p, mem_kdel hp, e⟩)
theorem kfind_del_self {k : K} {kv : List (K × V)} (h : (kv.map (·.1)).Nodup) : kfind k (kdel k kv) = none := by
  induction kv with
  | nil => simp [kdel, kfind]
  | cons q r ih =>
    simp only [List.map_cons, List.nodup_cons] at h
    by_cases hq : q.1 = k
    · simp only [kdel, if_pos hq]; rw [kfind_none, ← hq]; exact h.1
    · simp only [kdel, if_neg hq, kfind]; exact ih h.2
theorem kfind_del_other {k j : K} {kv : List (K × V)} (h : j ≠ k) : kfind j (kdel k kv) = kfind j kv := by
  induction kv with
  | nil => simp [kdel]
  | cons q r ih =>
    by_cases hq : q.1 = k
    · have : q.1 ≠ j := fun e => h (e.symm.trans hq)
      simp only [kdel, if_pos hq, kfind, if_neg this]
    · by_cases hj : q.1 = j
      · simp only [kdel, if_neg hq, kfind, if_pos hj]
      · simp only [kdel, if_neg hq, kfind, if_neg hj, ih]

/-! ### in memory -/
/-- What a key's type must give. -/
structure KeyOps (P : Program) (kt : TypeId) (ek : K → Value) : Prop where
  find : ∀ (w : World) (k : K) (es : List MapEntry) (ks : List K), es.map (·.key) = ks.map ek →
    (Instr.findKey kt (ek k) es).run P w = .ok ((pos k ks).bind fun i => (es[i]?).map fun e => (i, e.val)) w
  check : ∀ (w : World) (em : Bool) (k : K), (Instr.checkKey em 10000 kt (ek k)).run P w = .ok () w
  stays : ∀ (w : World) (k : K), (Instr.keyThatStays (ek k) (ek k)).run P w = .ok (ek k) w

theorem findAsking_spec {P : Program} {kt : TypeId} {ek : K → Value} (heq : ∀ (w : World) (a b : K), (Op.equal kt (ek a) (ek b)).run P w = .ok (decide (a = b)) w) (w : World) (k : K) :
    ∀ (es : List MapEntry) (ks : List K) (n : Nat), es.map (·.key) = ks.map ek → (Instr.findAsking kt (ek k) es n).run P w = .ok ((pos k ks).bind fun i => (es[i]?).map fun e => (n + i, e.val)) w
  | [], [], n, _ => by simp [Instr.findAsking, pos]
  | [], _ :: _, _, h => by simp at h
  | _ :: _, [], _, h => by simp at h
  | e :: es, k' :: ks, n, h => by
    simp only [List.map_cons, List.cons.injEq] at h
    obtain ⟨h1, h2⟩ := h
    unfold Instr.findAsking
    rw [Sem.run_bind, h1, heq w k k']
    simp only [Result.andThen_ok, pos]
    by_cases hk : k' = k
    · subst hk; simp
    · have hk2 : ¬ k = k' := fun e => hk e.symm
      simp only [hk, hk2, decide_false, if_false, Bool.false_eq_true]
      rw [findAsking_spec heq w k es ks (n + 1) h2]
      cases pos k ks with
      | none => rfl
      | some i => simp [Nat.add_assoc, Nat.add_comm 1 i]

theorem findKey_asks {P : Program} {kt : TypeId} {ek : K → Value} (d : TypeDesc) (hd : P.underlying kt = some d) (hnot : ∀ a b, Instr.sameNow d (ek a) (ek b) = none)
    (heq : ∀ (w : World) (a b : K), (Op.equal kt (ek a) (ek b)).run P w = .ok (decide (a = b)) w) (w : World) (k : K) (es : List MapEntry) (ks : List K) (h : es.map (·.key) = ks.map ek) :
    (Instr.findKey kt (ek k) es).run P w = .ok ((pos k ks).bind fun i => (es[i]?).map fun e => (i, e.val)) w := by
  unfold Instr.findKey
  rw [Sem.run_bind, run_underlying hd]
  simp only [Result.andThen_ok]
  cases es with
  | nil =>
    cases ks with
    | nil => simp [Instr.findNow, pos]
    | cons k' ks => simp at h
  | cons e es =>
    cases ks with
    | nil => simp at h
    | cons k' ks =>
      have h1 : e.key = ek k' := by simp at h; exact h.1
      simp only [Instr.findNow, h1, hnot]
      have := findAsking_spec heq w k (e :: es) (k' :: ks) 0 h
      rw [this]
      simp

theorem findNow_int {q : IntKind} (k : Int) : ∀ (es : List MapEntry) (ks : List Int) (n : Nat), es.map (·.key) = ks.map (Value.int q) →
    Instr.findNow (.int q) (.int q k) es n = some ((pos k ks).bind fun i => (es[i]?).map fun e => (n + i, e.val))
  | [], [], n, _ => by simp [Instr.findNow, pos]
  | [], _ :: _, _, h => by simp at h
  | _ :: _, [], _, h => by simp at h
  | e :: es, k' :: ks, n, h => by
    simp only [List.map_cons, List.cons.injEq] at h
    obtain ⟨h1, h2⟩ := h
    simp only [Instr.findNow, h1, Instr.sameNow, if_true, pos]
    by_cases hk : k' = k
    · subst hk; simp
    · have : (k == k') = false := by simp; exact fun e => hk e.symm
      rw [this]
      simp only [hk, if_false]
      rw [findNow_int k es ks (n + 1) h2]
      cases pos k ks with
      | none => rfl
      | some i => simp [Nat.add_assoc, Nat.add_comm 1 i]
theorem keyOps_int {P : Program} {kt : TypeId} {q : IntKind} (hd : P.underlying kt = some (.int q)) : KeyOps P kt (Value.int q) where
  find w k es ks h := by
    unfold Instr.findKey
    rw [Sem.run_bind, run_underlying hd]
    simp only [Result.andThen_ok]
    rw [findNow_int k es ks 0 h]
    simp
  check w em k := Go.MapKept.run_checkKey hd (by simp [Go.MapKept.IsKey]) em 9999
  stays w k := by simp [Instr.keyThatStays, Instr.sameBits]

/-- Block r is a map that holds the pairs kv. -/
def MapIs (w : World) (r : Nat) (ek : K → Value) (ev : V → Value) (kv : List (K × V)) : Prop :=
  ∃ es clock, w.heap[r]? = some (.map es clock) ∧ es.toList.map (·.key) = kv.map (fun p => ek p.1) ∧ es.toList.map (·.val) = kv.map (fun p => ev p.2) ∧ (es.toList.map (·.born)).Nodup ∧ ∀ e ∈ es, e.born < clock

section
variable {P : Program} {t kt et : TypeId} {ek : K → Value} {ev : V → Value} {kv : List (K × V)} {w w' : World} {r : Nat}
omit [DecidableEq K] in
theorem MapIs.lt (h : MapIs w r ek ev kv) : r < w.heap.size := by obtain ⟨es, c, hb, _⟩ := h; exact (Array.getElem?_eq_some_iff.1 hb).1
omit [DecidableEq K] in
theorem MapIs.of_blk (h : MapIs w r ek ev kv) (hb : w'.heap[r]? = w.heap[r]?) : MapIs w' r ek ev kv := by obtain ⟨es, c, hb', rest⟩ := h; exact ⟨es, c, hb.trans hb', rest⟩
omit [DecidableEq K] in
theorem MapIs.ext (h : MapIs w r ek ev kv) (he : Ext w w') : MapIs w' r ek ev kv := h.of_blk (he.blk h.lt)
omit [DecidableEq K] in
theorem MapIs.mods {S : Nat → Prop} (h : MapIs w r ek ev kv) (he : Mods S w w') (hS : ¬ S r) : MapIs w' r ek ev kv := h.of_blk (he.block r h.lt hS)
omit [DecidableEq K] in
theorem MapIs.made (w : World) : MapIs (w.alloc (.map #[] 0)) w.heap.size ek ev [] := ⟨#[], 0, heap_alloc_new w _, rfl, rfl, by simp, by simp⟩

theorem MapIs.found (h : MapIs w r ek ev kv) (hK : KeyOps P kt ek) (k : K) : ∃ es clock, w.heap[r]? = some (.map es clock) ∧ es.toList.map (·.key) = kv.map (fun p => ek p.1) ∧ es.toList.map (·.val) = kv.map (fun p => ev p.2) ∧
    (es.toList.map (·.born)).Nodup ∧ (∀ e ∈ es, e.born < clock) ∧
    ((kfind k kv = none ∧ (∀ v, kput k v kv = kv ++ [(k, v)]) ∧ kdel k kv = kv ∧ ∀ w, (Instr.findKey kt (ek k) es.toList).run P w = .ok none w) ∨
     ∃ i v, kfind k kv = some v ∧ i < es.size ∧ (es[i]?).map (·.key) = some (ek k) ∧ (∀ u, kput k u kv = kv.set i (k, u)) ∧ kdel k kv = kv.eraseIdx i ∧ ∀ w, (Instr.findKey kt (ek k) es.toList).run P w = .ok (some (i, ev v)) w) := by
  obtain ⟨es, clock, hb, hk, hv, hn, hc⟩ := h
  refine ⟨es, clock, hb, hk, hv, hn, hc, ?_⟩
  have hf := fun w => hK.find w k es.toList (kv.map (·.1)) (by rw [hk, List.map_map]; rfl)
  cases hp : pos k (kv.map (·.1)) with
  | none =>
    obtain ⟨h1, h2, h3⟩ := pos_none hp
    exact .inl ⟨h1, h2, h3, fun w => by rw [hf w, hp]; rfl⟩
  | some i =>
    obtain ⟨v, h1, h2, h3, h4⟩ := pos_some hp
    have hlen : es.toList.length = kv.length := by have := congrArg List.length hk; simpa using this
    have hi : i < kv.length := (List.getElem?_eq_some_iff.1 h1).1
    have hi' : i < es.toList.length := by omega
    have e1 : (es.toList[i]?).map (·.key) = some (ek k) := by rw [← List.getElem?_map, hk, List.getElem?_map, h1]; rfl
    have e2 : (es.toList[i]?).map (·.val) = some (ev v) := by rw [← List.getElem?_map, hv, List.getElem?_map, h1]; rfl
    refine .inr ⟨i, v, h2, by simpa using hi', by simpa using e1, h3, h4, fun w => ?_⟩
    rw [hf w, hp]
    simp only [Option.bind_some]
    rw [List.getElem?_eq_getElem hi'] at e2 ⊢
    simp only [Option.map_some, Option.some.injEq] at e2 ⊢
    rw [e2]

theorem MapIs.look (h : MapIs w r ek ev kv) (hK : KeyOps P kt ek) (ht : P.underlying t = some (.map kt et)) {z : Value} (hz : (zeroValue et).run P w = .ok z w) (c : Bool) (k : K) :
    (Instr.lookup t (.map (some r)) (ek k) c).run P w = .ok (if c then .tuple #[((kfind k kv).map ev).getD z, .bool (kfind k kv).isSome] else ((kfind k kv).map ev).getD z) w := by
  obtain ⟨es, clock, hb, hk, hv, hn, hc, hor⟩ := h.found hK k
  unfold Instr.lookup
  rw [Sem.run_bind, run_underlying ht]
  simp only [Result.andThen_ok, Sem.run_bind, getObj, Sem.run, hb, hK.check]
  rcases hor with ⟨h1, _, _, h4⟩ | ⟨i, v, h1, _, _, _, _, h4⟩
  · simp only [h4, Result.andThen_ok, Sem.run_bind, hz, h1, Sem.run_pure]; cases c <;> rfl
  · simp only [h4, Result.andThen_ok, h1, Sem.run_pure]; cases c <;> rfl

omit [DecidableEq K] in
theorem heap_set (w : World) (r : Nat) (o : Obj) (h : r < w.heap.size) : ({ w with heap := w.heap.setIfInBounds r o } : World).heap[r]? = some o := by
  simp [h]
omit [DecidableEq K] in
theorem mods_set (w : World) (r : Nat) (o : Obj) : Mods (· = r) w { w with heap := w.heap.setIfInBounds r o } :=
  ⟨rfl, rfl, rfl, by simp, fun k _ hk => by simp [Array.getElem?_setIfInBounds, Ne.symm hk]⟩

theorem MapIs.upd (h : MapIs w r ek ev kv) (hK : KeyOps P kt ek) (ht : P.underlying t = some (.map kt et)) (k : K) (v : V) :
    ∃ w', (Instr.mapUpdate t (.map (some r)) (ek k) (ev v)).run P w = .ok () w' ∧ MapIs w' r ek ev (kput k v kv) ∧ Mods (· = r) w w' := by
  have hlt := h.lt
  obtain ⟨es, clock, hb, hk, hv, hn, hc, hor⟩ := h.found hK k
  rcases hor with ⟨h1, h2, _, h4⟩ | ⟨i, u, h1, hi, hkey, h2, _, h4⟩
  · refine ⟨{ w with heap := w.heap.setIfInBounds r (.map (es.push { key := ek k, val := ev v, born := clock }) (clock + 1)) }, ?_, ?_, mods_set _ _ _⟩
    · unfold Instr.mapUpdate
      rw [Sem.run_bind, run_underlying ht]
      simp only [Result.andThen_ok, Sem.run_bind, getObj, setObj, Sem.run, hb, hK.check, h4]
    · refine ⟨_, _, heap_set _ _ _ hlt, ?_, ?_, ?_, ?_⟩
      · rw [h2 v]; simp [hk]
      · rw [h2 v]; simp [hv]
      · simp only [Array.toList_push, List.map_append, List.map_cons, List.map_nil]
        refine List.nodup_append.2 ⟨hn, by simp, fun a ha b hb' e => ?_⟩
        simp at hb'
        obtain ⟨x, hx, rfl⟩ := List.mem_map.1 ha
        have := hc x (by simpa using hx)
        omega
      · intro e he
        rcases Array.mem_push.1 he with he | rfl
        · have := hc e he; omega
        · exact Nat.lt_succ_self _
  · refine ⟨{ w with heap := w.heap.setIfInBounds r (.map (es.modify i fun e => { e with key := ek k, val := ev v }) clock) }, ?_, ?_, mods_set _ _ _⟩
    · unfold Instr.mapUpdate
      rw [Sem.run_bind, run_underlying ht]
      simp only [Result.andThen_ok, Sem.run_bind, getObj, setObj, Sem.run, hb, hK.check, h4, hkey, Option.getD_some, hK.stays]
    · have hmod : (es.modify i fun e => { e with key := ek k, val := ev v }).toList = es.toList.modify i (fun e => { e with key := ek k, val := ev v }) := by simp
      refine ⟨_, _, heap_set _ _ _ hlt, ?_, ?_, ?_, ?_⟩
      · rw [hmod, h2 v]
        apply List.ext_getElem?
        intro j
        have hj := congrArg (fun l => l[j]?) hk
        simp only [List.getElem?_map, List.getElem?_modify, List.getElem?_set] at hj ⊢
        by_cases hij : i = j
        · subst hij
          have hlen : es.toList.length = kv.length := by have := congrArg List.length hk; simpa using this
          have : i < kv.length := by simp at hlen; omega
          simp [this, show i < es.size from hi]
        · simp only [hij, if_false]
          rw [← hj]; simp
      · rw [hmod, h2 v]
        apply List.ext_getElem?
        intro j
        have hj := congrArg (fun l => l[j]?) hv
        simp only [List.getElem?_map, List.getElem?_modify, List.getElem?_set] at hj ⊢
        by_cases hij : i = j
        · subst hij
          have hlen : es.toList.length = kv.length := by have := congrArg List.length hk; simpa using this
          have : i < kv.length := by simp at hlen; omega
          simp [this, show i < es.size from hi]
        · simp only [hij, if_false]
          rw [← hj]; simp
      · rw [hmod]
        have : (es.toList.modify i (fun e => { e with key := ek k, val := ev v })).map (·.born) = es.toList.map (·.born) := by
          apply List.ext_getElem?
          intro j
          simp only [List.getElem?_map, List.getElem?_modify]
          by_cases hij : i = j <;> cases es.toList[j]? <;> simp [hij]
        rw [this]; exact hn
      · intro e he
        obtain ⟨j, hj⟩ := Array.getElem?_of_mem he
        rw [Array.getElem?_modify] at hj
        split at hj
        · obtain ⟨x, hx, rfl⟩ := Option.map_eq_some_iff.1 hj
          exact hc x (Array.mem_of_getElem? hx)
        · exact hc e (Array.mem_of_getElem? hj)

theorem MapIs.del (h : MapIs w r ek ev kv) (hK : KeyOps P kt ek) (ht : P.underlying t = some (.map kt et)) {ty kt' : TypeId} (k : K) :
    ∃ w', (Builtin.delete_ #[t, kt'] ty #[.map (some r), ek k]).run P w = .ok (.tuple #[]) w' ∧ MapIs w' r ek ev (kdel k kv) ∧ Mods (· = r) w w' := by
  have hlt := h.lt
  obtain ⟨es, clock, hb, hk, hv, hn, hc, hor⟩ := h.found hK k
  rcases hor with ⟨h1, _, h3, h4⟩ | ⟨i, u, h1, hi, hkey, _, h3, h4⟩
  · refine ⟨{ w with heap := w.heap.setIfInBounds r (.map es clock) }, ?_, ⟨es, clock, heap_set _ _ _ hlt, by rw [h3]; exact hk, by rw [h3]; exact hv, hn, hc⟩, mods_set _ _ _⟩
    simp [Builtin.delete_, run_underlying ht, getObj, setObj, Sem.run, hb, hK.check, h4]
  · refine ⟨{ w with heap := w.heap.setIfInBounds r (.map (es.eraseIdxIfInBounds i) clock) }, ?_, ?_, mods_set _ _ _⟩
    · simp [Builtin.delete_, run_underlying ht, getObj, setObj, Sem.run, hb, hK.check, h4]
    · have he : (es.eraseIdxIfInBounds i).toList = es.toList.eraseIdx i := by simp [Array.eraseIdxIfInBounds, hi]
      refine ⟨_, _, heap_set _ _ _ hlt, ?_, ?_, ?_, ?_⟩
      · rw [he, h3, map_eraseIdx', hk, map_eraseIdx']
      · rw [he, h3, map_eraseIdx', hv, map_eraseIdx']
      · rw [he, map_eraseIdx']; exact hn.sublist (List.eraseIdx_sublist _ _)
      · intro e hm
        have : e ∈ (es.eraseIdxIfInBounds i).toList := Array.mem_toList_iff.2 hm
        rw [he] at this
        exact hc e (by simpa using List.mem_of_mem_eraseIdx this)
omit [DecidableEq K] in
theorem MapIs.len (h : MapIs w r ek ev kv) (ht : P.underlying t = some (.map kt et)) {ty : TypeId} : (Builtin.len_ #[t] ty #[.map (some r)]).run P w = .ok (.int .i64 kv.length) w := by
  obtain ⟨es, clock, hb, hk, _⟩ := h
  have hlen : es.toList.length = kv.length := by have := congrArg List.length hk; simpa using this
  have hs : es.size = kv.length := by simpa using hlen
  simp [Builtin.len_, run_underlying ht, getObj, Sem.run, hb, goInt, hs]

/-! ### at the operation -/
variable {a : Act} {d : Option Tmp} {ty : TypeId} {s : String} {af : Array Edge} {g : Option (Nat × Bool)} {m kx vx : Operand}
theorem stepAt_upd (h : MapIs w r ek ev kv) (hK : KeyOps P kt ek) (ht : P.underlying t = some (.map kt et)) {k : K} {v : V} (hm : a.eval m = .map (some r)) (hk : a.eval kx = ek k) (hv : a.eval vx = ev v) :
    stepAt P ⟨d, .mapUpdate t m kx vx, ty, s, af, g⟩ a w (fun _ w' => MapIs w' r ek ev (kput k v kv) ∧ Mods (· = r) w w') := by
  obtain ⟨w', hr, h1, h2⟩ := h.upd hK ht k v
  unfold stepAt
  simp only [execOp, hm, hk, hv, Sem.run_bind, hr, Result.andThen_ok]
  exact ⟨h1, h2⟩
theorem stepAt_del (h : MapIs w r ek ev kv) (hK : KeyOps P kt ek) (ht : P.underlying t = some (.map kt et)) {k : K} {kt' : TypeId} (hm : a.eval m = .map (some r)) (hk : a.eval kx = ek k) :
    stepAt P ⟨d, .call { callee := .builtin .delete, args := #[m, kx], argTypes := #[t, kt'] }, ty, s, af, g⟩ a w (fun _ w' => MapIs w' r ek ev (kdel k kv) ∧ Mods (· = r) w w') := by
  obtain ⟨w', hr, h1, h2⟩ := h.del hK ht (ty := ty) (kt' := kt') k
  unfold stepAt
  simp only [execOp, resolve, invoke, builtin, Sem.run_bind, Sem.run_pure, Result.andThen_ok, List.map_toArray, List.map_cons, List.map_nil, hm, hk, hr]
  exact ⟨h1, h2⟩
theorem op_look (h : MapIs w r ek ev kv) (hK : KeyOps P kt ek) (ht : P.underlying t = some (.map kt et)) {z : Value} (hz : (zeroValue et).run P w = .ok z w) {c : Bool} {k : K} (hm : a.eval m = .map (some r)) (hk : a.eval kx = ek k) :
    (execOp a.eval ⟨d, .lookup t m kx c, ty, s, af, g⟩).run P w = .ok (.value (if c then .tuple #[((kfind k kv).map ev).getD z, .bool (kfind k kv).isSome] else ((kfind k kv).map ev).getD z)) w := by
  simp only [execOp, hm, hk, Sem.run_bind, h.look hK ht hz, Result.andThen_ok]; rfl
end
end
end Go.Proofs.Ytokljdkeegdniaa
