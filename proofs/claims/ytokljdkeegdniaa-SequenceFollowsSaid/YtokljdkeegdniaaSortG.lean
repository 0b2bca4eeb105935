/-
  slices.SortFunc over a slice of the call's own, whose elements are structs: it reads as a permutation, sorted; nothing else that lay there is turned.
-/
import Derived.Test.YtokljdkeegdniaaMem
import Derived.Test.YtokljdkeegdniaaSortL
namespace Go.Proofs.Ytokljdkeegdniaa
open Go.RowKit Go.Sort Go.Shelf

/-- What a comparing function must answer: it may draw, and lay blocks. -/
def CmpAt (P : Program) (f : Nat) {α : Type} (enc : α → List Value) (cf : α → α → Int) : Prop :=
  ∀ (x y : α) (W : World), Calls P f #[.agg (enc x).toArray, .agg (enc y).toArray] W fun e w' => e = .returned (.int .i64 (cf x y)) ∧ ∃ q os', w' = grow (W.drewN q) os'
theorem mods_put {w : World} {g : Nat} {F : Array Value} {n : Nat} {os : Array Obj} : Mods (· = g) w (grow (putRow id (Go.Sort.ahead w n) g 0 F) os) := by
  refine ⟨rfl, rfl, rfl, ?_, fun k hk hs => ?_⟩
  · simp [grow, putRow, mapBlock, Go.Sort.ahead]
  · have h1 : k < (putRow id (Go.Sort.ahead w n) g 0 F).heap.size := by simp [putRow, mapBlock, Go.Sort.ahead]; exact hk
    show ((putRow id (Go.Sort.ahead w n) g 0 F).heap ++ os)[k]? = w.heap[k]?
    rw [Array.getElem?_append_left h1]
    show (w.heap.modify g (onCells (putCells id 0 F)))[k]? = w.heap[k]?
    rw [Array.getElem?_modify, if_neg (fun e => hs e.symm)]
theorem holdsK_own {α : Type} [Inhabited α] {enc : α → List Value} {k : Nat} (hk : ∀ x, (enc x).length = k) (hk0 : 0 < k) {e : TypeId} {w : World} {g n cap : Nat} {l : List α} (h : Own enc k e w (.slice (some ⟨g, 0, none⟩) n cap) l) : HoldsK enc k w g 0 l.toArray := by
  intro j hj
  rw [size_flatK] at hj
  have hjl : j < l.length * k := by simpa using hj
  rw [get_flatK _ _ _ _ hj]
  have hq : j / k < l.length := Nat.div_lt_of_lt_mul (by rw [Nat.mul_comm]; exact hjl)
  have hmod := Nat.mod_lt j hk0
  have e1 : l.toArray[j / k]! = l[j / k] := by simp [hq]
  have e2 : (enc l[j / k])[j % k]! = (enc l[j / k])[j % k]'(by rw [hk]; exact hmod) := by
    rw [getElem!_pos (enc l[j / k]) (j % k) (by rw [hk]; exact hmod)]
  rw [e1, e2]
  have hex : (enc l[j / k])[j % k]? = some ((enc l[j / k])[j % k]'(by rw [hk]; exact hmod)) := List.getElem?_eq_getElem _
  have h2 := flatMap_get hk l (j / k) _ (List.getElem?_eq_getElem hq) (j % k) _ hex
  have hj' : j / k * k + j % k = j := by rw [Nat.mul_comm]; exact Nat.div_add_mod j k
  rw [hj'] at h2
  refine ⟨?_, ?_⟩
  · have := World.ownsRow.cells h (g := g) rfl j _ h2
    rw [Addr.add_lit] at this
    exact this
  · rcases h.2 with ⟨e3, _⟩ | ⟨g', cap', cur, e3, _, hg, _⟩
    · cases e3
    · injection e3 with e3
      injection e3 with e3
      injection e3 with e3
      subst e3
      show (match w.heap[g]? with | some (.cells _ _ (lo, hi)) => lo ≤ 0 + j && 0 + j < hi | _ => false) = false
      rw [hg]; simp
theorem sl_holdsK {α : Type} [Inhabited α] {enc : α → List Value} {k : Nat} (hk : ∀ x, (enc x).length = k) {w : World} {g cap : Nat} {d : Array α} (hc : d.size ≤ cap) (hm : cap ≤ maxLen) (hg : g < w.heap.size) (h : HoldsK enc k w g 0 d) : Sl enc k w (.slice (some ⟨g, 0, none⟩) d.size cap) d.toList := by
  refine ⟨_, cap, by simp, by simpa using hc, hm, fun _ => ⟨g, 0, rfl, hg, fun j m hj i u hu => ?_⟩⟩
  have hjl : j < d.size := by have := (List.getElem?_eq_some_iff.1 hj).1; simpa using this
  have hil : i < k := by have := (List.getElem?_eq_some_iff.1 hu).1; rwa [hk] at this
  have hc := (h.cell hjl hil).1
  rw [hc]
  have e1 : d[j]! = m := by
    rw [getElem!_pos d j hjl]
    have := (List.getElem?_eq_some_iff.1 hj).2
    simpa using this
  rw [e1, getElem!_pos (enc m) i (by rw [hk]; exact hil)]
  rw [(List.getElem?_eq_some_iff.1 hu).2]
theorem sort_at {α : Type} [Inhabited α] {P : Program} {ρ : Ren} (L : SlLaysF0.n6 P ρ) (k : Nat) (hk0 : 0 < k) (aE : ∀ w, (isAgg (ρ.t 24)).run P w = .ok true w) (zE : ∀ w, (Go.sizeOf (ρ.t 24)).run P w = .ok k w) (enc : α → List Value) (hk : ∀ x, (enc x).length = k) (h1 : ∀ x, ∀ v ∈ enc x, v.oneCell' = true)
    (cf : α → α → Int) (hO : SWO (ltOf cf)) (f : Nat) (eg : ∀ args w, (callFunc f args).run P w = .ok (.enter f args) w) (hcmp : CmpAt P f enc cf) {e : TypeId} {w : World} {v : Value} {l : List α} (h : Own enc k e w v l) (hlen : l.length ≤ 1000000000) :
    Calls P (ρ.f 6) #[v, .func (.func f) #[] #[]] w fun e w' => e = .returned (.tuple #[]) ∧ ∃ l', l'.Perm l ∧ l'.Pairwise (fun x y => ltOf cf y x = false) ∧ Sl enc k w' v l' ∧ Mods (fun b => v.ownBlock = some b) w w' := by
  have h0 := h
  have hs := h.sl hk
  rcases h.2 with ⟨rfl, hl⟩ | ⟨g, cap, cur, rfl, _, hg, hn, hc, hcs, ht⟩
  · have : l = [] := List.eq_nil_of_length_eq_zero hl
    subst this
    refine (AnyF.slices_SortFunc_none { L with } none 0 _ w).mono ?_
    rintro e w' ⟨rfl, rfl⟩
    exact ⟨rfl, [], List.Perm.refl _, List.Pairwise.nil, hs, Mods.refl _ _⟩
  · have hglt : g < w.heap.size := (Array.getElem?_eq_some_iff.1 hg).1
    have hH := holdsK_own hk hk0 h0
    have hsz : l.toArray.size = l.length := by simp
    have hlt : l.toArray.size < 4611686018427387904 := by rw [hsz]; omega
    have := AnyQ.slices_SortFunc L k aE zE enc hk h1 cf hO f #[] g 0 cap l.toArray w eg (fun _ _ _ _ x y => hcmp x y _) hH hglt hlt
    rw [hsz] at this
    refine this.mono ?_
    rintro e w' ⟨rfl, d', n, os, hp, hso, rfl⟩
    obtain ⟨p1, p2, p3⟩ := hp
    have e1 : d'.extract 0 l.length = d' := by rw [← hsz, ← p1]; exact Array.extract_size
    have e2 : l.toArray.extract 0 l.length = l.toArray := by rw [← hsz]; exact Array.extract_size
    have hput : HoldsK enc k (grow (putRowK enc k (Go.Sort.ahead w n) g 0 d') os) g 0 d' := holdsK_grow enc k _ os g 0 d' (by simp [putRowK, putRow, mapBlock, Go.Sort.ahead]; exact hglt) (holdsK_putRowK enc k _ g 0 l.toArray d' hH p1)
    have hd : d'.size = l.length := by rw [p1, hsz]
    refine ⟨rfl, d'.toList, ?_, ?_, ?_, ?_⟩
    · rw [e1, e2] at p3; simpa using p3
    · rw [List.pairwise_iff_getElem]
      intro i j hi hj hij
      have hi' : i < d'.size := by simpa using hi
      have hj' : j < d'.size := by simpa using hj
      have := hso i j (Nat.zero_le _) hij (by rw [← hd]; exact hj')
      rw [getElem!_pos d' j hj', getElem!_pos d' i hi'] at this
      simpa using this
    · have := sl_holdsK hk (w := grow (putRowK enc k (Go.Sort.ahead w n) g 0 d') os) (by rw [hd]; exact hn) hc (by simp [putRowK, putRow, mapBlock, Go.Sort.ahead]; omega) hput
      rw [hd] at this
      exact this
    · exact mods_put.mono (fun x _ hx => by rw [hx]; rfl)
end Go.Proofs.Ytokljdkeegdniaa
