/-
  A RANGE OVER A MAP whose rounds lay blocks, and may delete the pair that came: what is still to come, as a list of pairs.
-/
import Derived.Test.YtokljdkeegdniaaMaps2
import Derived.Maps.RangeRun
namespace Go.Proofs.Ytokljdkeegdniaa
open Go.RowKit Go.ChangeMaps

section
variable {K V : Type} {P : Program} {ek : K → Value} {ev : V → Value}
def mkE (ek : K → Value) (ev : V → Value) (x : (K × V) × Nat) : MapEntry := { key := ek x.1.1, val := ev x.1.2, born := x.2 }
/-- Block r ranges over the map mb, which holds kv; rest is still to come. -/
def RgIs (w : World) (r mb : Nat) (ek : K → Value) (ev : V → Value) (kv rest : List (K × V)) : Prop :=
  ∃ (X : List ((K × V) × Nat)) (clock since c0 : Nat) (seen : Array Nat), w.heap[mb]? = some (.map (X.map (mkE ek ev)).toArray clock) ∧ X.map (·.1) = kv ∧ (X.map (·.2)).Nodup ∧
    (∀ x ∈ X, x.2 < since) ∧ since ≤ c0 ∧ since ≤ clock ∧ w.heap[r]? = some (.mapIter (some mb) since seen c0) ∧ (X.filter (fun x => !seen.contains x.2)).map (·.1) = rest

theorem MapIs.marks {w : World} {mb : Nat} {kv : List (K × V)} (h : MapIs w mb ek ev kv) : ∃ (X : List ((K × V) × Nat)) (clock : Nat), w.heap[mb]? = some (.map (X.map (mkE ek ev)).toArray clock) ∧ X.map (·.1) = kv ∧ (X.map (·.2)).Nodup ∧ ∀ x ∈ X, x.2 < clock := by
  obtain ⟨es, clock, hb, hk, hv, hn, hc⟩ := h
  have hlen : es.toList.length = kv.length := by have := congrArg List.length hk; simpa using this
  have h1 : (kv.zip (es.toList.map (·.born))).map (·.1) = kv := by
    rw [List.map_fst_zip]; simp only [List.length_map]; omega
  have h2 : (kv.zip (es.toList.map (·.born))).map (·.2) = es.toList.map (·.born) := by
    rw [List.map_snd_zip]; simp only [List.length_map]; omega
  have h3 : (kv.zip (es.toList.map (·.born))).map (mkE ek ev) = es.toList := by
    refine List.ext_getElem (by simp at hlen ⊢; omega) fun i hi hj => ?_
    have hi' : i < kv.length := by simp at hi; omega
    have e1 := congrArg (fun l => l[i]?) hk
    have e2 := congrArg (fun l => l[i]?) hv
    simp only [List.getElem?_map, List.getElem?_eq_getElem hj, List.getElem?_eq_getElem hi', Option.map_some, Option.some.injEq] at e1 e2
    simp only [List.getElem_map, List.getElem_zip, mkE]
    rw [← e1, ← e2]
  refine ⟨_, clock, ?_, h1, by rw [h2]; exact hn, fun x hx => ?_⟩
  · rw [h3]; simpa using hb
  · have : x.2 ∈ es.toList.map (·.born) := by rw [← h2]; exact List.mem_map_of_mem hx
    obtain ⟨e, he, e2⟩ := List.mem_map.1 this
    rw [← e2]; exact hc e (by simpa using he)
theorem RgIs.map {w : World} {r mb : Nat} {kv rest : List (K × V)} (h : RgIs w r mb ek ev kv rest) : MapIs w mb ek ev kv := by
  obtain ⟨X, clock, since, c0, seen, hb, hX, hn, hl, h1, h2, hr, hrest⟩ := h
  subst hX
  refine ⟨_, clock, hb, by simp [mkE, Function.comp_def], by simp [mkE, Function.comp_def], by simpa [mkE, Function.comp_def] using hn, fun e he => ?_⟩
  have he' : e ∈ X.map (mkE ek ev) := by simpa using he
  obtain ⟨x, hx, rfl⟩ := List.mem_map.1 he'
  have := hl x hx
  show x.2 < clock
  omega
theorem RgIs.ltr {w : World} {r mb : Nat} {kv rest : List (K × V)} (h : RgIs w r mb ek ev kv rest) : r < w.heap.size := by
  obtain ⟨X, clock, since, c0, seen, hb, hX, hn, hl, h1, h2, hr, hrest⟩ := h
  exact (Array.getElem?_eq_some_iff.1 hr).1
theorem RgIs.ne {w : World} {r mb : Nat} {kv rest : List (K × V)} (h : RgIs w r mb ek ev kv rest) : r ≠ mb := by
  obtain ⟨X, clock, since, c0, seen, hb, hX, hn, hl, h1, h2, hr, hrest⟩ := h
  rintro rfl
  rw [hb] at hr; cases hr
theorem RgIs.mods {w w' : World} {r mb : Nat} {kv rest : List (K × V)} {S : Nat → Prop} (h : RgIs w r mb ek ev kv rest) (he : Mods S w w') (h1 : ¬ S r) (h2 : ¬ S mb) : RgIs w' r mb ek ev kv rest := by
  have hl := h.ltr
  have hm := h.map.lt
  obtain ⟨X, clock, since, c0, seen, hb, hX, hn, hl', h1', h2', hr, hrest⟩ := h
  exact ⟨X, clock, since, c0, seen, (he.block mb hm h2).trans hb, hX, hn, hl', h1', h2', (he.block r hl h1).trans hr, hrest⟩
theorem RgIs.ext {w w' : World} {r mb : Nat} {kv rest : List (K × V)} (h : RgIs w r mb ek ev kv rest) (he : Ext w w') : RgIs w' r mb ek ev kv rest := h.mods (he.mods (fun _ => False)) (fun h => h) (fun h => h)

theorem RgIs.begin {w : World} {mb : Nat} {kv : List (K × V)} (h : MapIs w mb ek ev kv) {t kt et : TypeId} (ht : P.underlying t = some (.map kt et)) :
    ∃ w', (Instr.range t (.map (some mb))).run P w = .ok (.pointer (some ⟨w.heap.size, 0, none⟩)) w' ∧ RgIs w' w.heap.size mb ek ev kv kv ∧ Ext w w' := by
  have hlt := h.lt
  obtain ⟨X, clock, hb, hX, hn, hl⟩ := h.marks
  refine ⟨_, run_range_map w t kt et mb _ clock ht hb, ⟨X, clock, clock, clock, #[], (Below.heap_alloc _ _ _ hlt).trans hb, hX, hn, hl, Nat.le_refl _, Nat.le_refl _, heap_alloc_new w _, ?_⟩, Ext.alloc _ _⟩
  rw [← hX]
  congr 1
  exact List.filter_eq_self.2 (fun x _ => by simp)
theorem stepAt_range {a : Act} {d : Option Tmp} {t ty kt et : TypeId} {s : String} {af : Array Edge} {g : Option (Nat × Bool)} {w : World} {mb : Nat} {m : Operand} {kv : List (K × V)}
    (h : MapIs w mb ek ev kv) (ht : P.underlying t = some (.map kt et)) (hm : a.eval m = .map (some mb)) :
    stepAt P ⟨d, .range t m, ty, s, af, g⟩ a w (fun u w' => ∃ b, u = .pointer (some ⟨b, 0, none⟩) ∧ Ext w w' ∧ (w.heap.size ≤ b ∧ RgIs w' b mb ek ev kv kv)) := by
  obtain ⟨w', hr, h1, h2⟩ := RgIs.begin (P := P) h ht
  unfold stepAt
  simp only [execOp, hm, Sem.run_bind, hr, Result.andThen_ok]
  exact ⟨_, rfl, h2, Nat.le_refl _, h1⟩

theorem filt_perm {α : Type} : ∀ (L : List (α × Nat)), (L.map (·.2)).Nodup → ∀ x ∈ L, L.Perm (x :: L.filter (fun y => !(y.2 == x.2)))
  | [], _, x, hx => by simp at hx
  | y :: t, hn, x, hx => by
    simp only [List.map_cons, List.nodup_cons] at hn
    rcases List.mem_cons.1 hx with rfl | hx
    · rw [List.filter_cons_of_neg (by simp)]
      rw [List.filter_eq_self.2 (fun z hz => by
        have : z.2 ≠ x.2 := fun e => hn.1 (by rw [← e]; exact List.mem_map_of_mem hz)
        simpa using this)]
    · have : y.2 ≠ x.2 := fun e => hn.1 (by rw [e]; exact List.mem_map_of_mem hx)
      rw [List.filter_cons_of_pos (by simpa using this)]
      exact ((filt_perm t hn.2 x hx).cons y).trans (List.Perm.swap ..)

theorem RgIs.next {w : World} {r mb : Nat} {kv rest : List (K × V)} (h : RgIs w r mb ek ev kv rest) (ty : TypeId) :
    (rest = [] ∧ (Instr.next (.pointer (some ⟨r, 0, none⟩)) false ty).run P w = .ok (.tuple #[.bool false]) w) ∨
    ∃ p rest' w', p ∈ kv ∧ rest.Perm (p :: rest') ∧ (Instr.next (.pointer (some ⟨r, 0, none⟩)) false ty).run P w = .ok (.tuple #[.bool true, ek p.1, ev p.2]) w' ∧ RgIs w' r mb ek ev kv rest' ∧ Mods (· = r) w w' ∧
      ∀ w'', Ext w' w'' → (Instr.entry (.pointer (some ⟨r, 0, none⟩))).run P w'' = .ok (.tuple #[ek p.1, ev p.2]) w'' := by
  have hne := h.ne
  obtain ⟨X, clock, since, c0, seen, hb, hX, hn, hl, h1, h2, hr, hrest⟩ := h
  have hold : ∀ x ∈ (X.map (mkE ek ev)).toArray.toList, x.born < since := fun e he => by
    obtain ⟨x, hx, rfl⟩ := List.mem_map.1 (show e ∈ X.map (mkE ek ev) from he)
    exact hl x hx
  have hleft : (leftOf (X.map (mkE ek ev)).toArray seen).toList = (X.filter (fun x => !seen.contains x.2)).map (mkE ek ev) := by
    unfold leftOf
    rw [Array.toList_filter, List.filter_map]
    rfl
  rcases run_next_at (P := P) w ty r mb since c0 seen _ clock hr hb hold h1 with ⟨h0, hrun⟩ | ⟨e, he, w1, hw1, hrun⟩
  · refine .inl ⟨?_, hrun⟩
    have : (X.filter (fun x => !seen.contains x.2)).map (mkE ek ev) = [] := by rw [← hleft]; exact List.eq_nil_of_length_eq_zero (by simpa using h0)
    rw [← hrest, List.map_eq_nil_iff.1 this]; rfl
  · rw [hleft] at he
    obtain ⟨x, hx, rfl⟩ := List.mem_map.1 he
    have hxX : x ∈ X := (List.mem_filter.1 hx).1
    have hh : w1.heap = w.heap := by rcases hw1 with rfl | rfl <;> rfl
    have hrl : r < w1.heap.size := by rw [hh]; exact (Array.getElem?_eq_some_iff.1 hr).1
    have hr' : (setBlock w1 r (.mapIter (some mb) since (seen.push x.2) clock)).heap[r]? = some (.mapIter (some mb) since (seen.push x.2) clock) := by simp [setBlock, hrl]
    have hb' : (setBlock w1 r (.mapIter (some mb) since (seen.push x.2) clock)).heap[mb]? = some (.map (X.map (mkE ek ev)).toArray clock) := by
      simp only [setBlock, Array.getElem?_setIfInBounds, if_neg hne, hh]; exact hb
    have hm1 : Mods (· = r) w w1 := by
      rcases hw1 with rfl | rfl
      · exact Mods.refl _ _
      · exact (Ext.drew _).mods _
    refine .inr ⟨x.1, ((X.filter (fun y => !seen.contains y.2)).filter (fun y => !(y.2 == x.2))).map (·.1), _, by rw [← hX]; exact List.mem_map_of_mem hxX, ?_, hrun, ⟨X, clock, since, clock, seen.push x.2, hb', hX, hn, hl, h2, h2, hr', ?_⟩, hm1.trans (mods_set _ _ _) (fun _ _ h => h), ?_⟩
    · rw [← hrest, ← List.map_cons]
      exact (filt_perm _ (hn.sublist ((List.filter_sublist).map _)) x hx).map _
    · rw [List.filter_filter]
      congr 1
      refine List.filter_congr fun y _ => ?_
      by_cases h : y.2 = x.2 <;> simp [h]
    · intro w'' hE
      refine run_entry_at (e := mkE ek ev x) _ r mb since seen _ clock ((hE.blk (Array.getElem?_eq_some_iff.1 hr').1).trans hr') ((hE.blk (Array.getElem?_eq_some_iff.1 hb').1).trans hb') (show mkE ek ev x ∈ X.map (mkE ek ev) from List.mem_map_of_mem hxX) ?_
      simpa [mkE, Function.comp_def] using hn

theorem op_entry {a : Act} {d : Option Tmp} {ty : TypeId} {s : String} {af : Array Edge} {g : Option (Nat × Bool)} {w : World} {r : Nat} {x : Operand} {v : Value} (h : (Instr.entry (.pointer (some ⟨r, 0, none⟩))).run P w = .ok v w) (hx : a.eval x = .pointer (some ⟨r, 0, none⟩)) :
    (execOp a.eval ⟨d, .entry x, ty, s, af, g⟩).run P w = .ok (.value v) w := by
  simp only [execOp, hx, Sem.run_bind, h, Result.andThen_ok]; rfl

theorem filter_eraseIdx {α : Type} (q : α → Bool) : ∀ (l : List α) (i : Nat), (∀ x, l[i]? = some x → q x = false) → (l.eraseIdx i).filter q = l.filter q
  | [], _, _ => rfl
  | x :: l, 0, h => by simp [List.filter_cons, h x rfl]
  | x :: l, i + 1, h => by
    simp only [List.eraseIdx_cons_succ, List.filter_cons]
    rw [filter_eraseIdx q l i (fun y hy => h y (by simpa using hy))]
/-- delete of a pair that came already: what is to come stays. -/
theorem RgIs.del [DecidableEq K] {w : World} {r mb : Nat} {kv rest : List (K × V)} (h : RgIs w r mb ek ev kv rest) {kt et t : TypeId} (hK : KeyOps P kt ek) (ht : P.underlying t = some (.map kt et)) {ty kt' : TypeId} (k : K) (hk : k ∉ rest.map (·.1)) :
    ∃ w', (Builtin.delete_ #[t, kt'] ty #[.map (some mb), ek k]).run P w = .ok (.tuple #[]) w' ∧ RgIs w' r mb ek ev (kdel k kv) rest ∧ Mods (· = mb) w w' := by
  have hmlt := h.map.lt
  have hne := h.ne
  obtain ⟨X, clock, since, c0, seen, hb, hX, hn, hl, h1, h2, hr, hrest⟩ := h
  have hf := fun w => hK.find w k (X.map (mkE ek ev)) (kv.map (·.1)) (by rw [← hX]; simp [mkE, Function.comp_def])
  cases hp : pos k (kv.map (·.1)) with
  | none =>
    obtain ⟨q1, q2, q3⟩ := pos_none hp
    have hf' : ∀ w, (Instr.findKey kt (ek k) (X.map (mkE ek ev))).run P w = .ok none w := fun w => by rw [hf w, hp]; rfl
    refine ⟨{ w with heap := w.heap.setIfInBounds mb (.map (X.map (mkE ek ev)).toArray clock) }, ?_, ⟨X, clock, since, c0, seen, heap_set _ _ _ hmlt, by rw [q3]; exact hX, hn, hl, h1, h2, ?_, hrest⟩, mods_set _ _ _⟩
    · simp [Builtin.delete_, run_underlying ht, getObj, setObj, Sem.run, hb, hK.check, hf']
    · simp only [Array.getElem?_setIfInBounds, if_neg (Ne.symm hne)]; exact hr
  | some i =>
    obtain ⟨v, q1, q2, q3, q4⟩ := pos_some hp
    have hi : i < X.length := by have := (List.getElem?_eq_some_iff.1 q1).1; rw [← hX, List.length_map] at this; exact this
    have hxi : (X[i]).1 = (k, v) := by
      have := q1; rw [← hX, List.getElem?_map, List.getElem?_eq_getElem hi] at this; simpa using this
    have hf' : ∀ w, (Instr.findKey kt (ek k) (X.map (mkE ek ev))).run P w = .ok (some (i, ev v)) w := fun w => by
      rw [hf w, hp]; simp [hi, mkE, hxi]
    have he : ((X.map (mkE ek ev)).toArray.eraseIdxIfInBounds i) = ((X.eraseIdx i).map (mkE ek ev)).toArray := by
      apply Array.ext'
      simp [Array.eraseIdxIfInBounds, hi, map_eraseIdx']
    refine ⟨{ w with heap := w.heap.setIfInBounds mb (.map ((X.map (mkE ek ev)).toArray.eraseIdxIfInBounds i) clock) }, ?_, ⟨X.eraseIdx i, clock, since, c0, seen, ?_, ?_, ?_, ?_, h1, h2, ?_, ?_⟩, mods_set _ _ _⟩
    · simp [Builtin.delete_, run_underlying ht, getObj, setObj, Sem.run, hb, hK.check, hf']
    · rw [heap_set _ _ _ hmlt, he]
    · rw [q4, map_eraseIdx', hX]
    · rw [map_eraseIdx']; exact hn.sublist (List.eraseIdx_sublist _ _)
    · exact fun x hx => hl x (List.mem_of_mem_eraseIdx hx)
    · simp only [Array.getElem?_setIfInBounds, if_neg (Ne.symm hne)]; exact hr
    · rw [filter_eraseIdx _ X i (fun x hx => ?_)]
      · exact hrest
      · rw [List.getElem?_eq_getElem hi] at hx
        injection hx with hx
        subst hx
        refine Classical.byContradiction fun hc => hk ?_
        rw [← hrest, List.map_map]
        refine List.mem_map.2 ⟨X[i], List.mem_filter.2 ⟨List.getElem_mem hi, by simpa using hc⟩, by simp [hxi]⟩
theorem stepAt_rdel [DecidableEq K] {a : Act} {d : Option Tmp} {ty : TypeId} {s : String} {af : Array Edge} {g : Option (Nat × Bool)} {w : World} {r mb : Nat} {m kx : Operand} {kv rest : List (K × V)} (h : RgIs w r mb ek ev kv rest) {kt et t kt' : TypeId} (hK : KeyOps P kt ek) (ht : P.underlying t = some (.map kt et))
    {k : K} (hk : k ∉ rest.map (·.1)) (hm : a.eval m = .map (some mb)) (hkx : a.eval kx = ek k) :
    stepAt P ⟨d, .call { callee := .builtin .delete, args := #[m, kx], argTypes := #[t, kt'] }, ty, s, af, g⟩ a w (fun _ w' => RgIs w' r mb ek ev (kdel k kv) rest ∧ Mods (· = mb) w w') := by
  obtain ⟨w', hr, h1, h2⟩ := h.del hK ht (ty := ty) (kt' := kt') k hk
  unfold stepAt
  simp only [execOp, resolve, invoke, builtin, Sem.run_bind, Sem.run_pure, Result.andThen_ok, List.map_toArray, List.map_cons, List.map_nil, hm, hkx, hr]
  exact ⟨h1, h2⟩
end
end Go.Proofs.Ytokljdkeegdniaa
