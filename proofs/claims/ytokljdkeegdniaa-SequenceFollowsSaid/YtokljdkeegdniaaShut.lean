/-
  ARGUMENTS READ AFTERWARDS AS BEFORE, where the call has left all that lay there as it lay (Ext); results of one bool. One step for every law.
-/
import Derived.Test.YtokljdkeegdniaaMem
import Derived.Test.YtokljdkeegdniaaRows
import Derived.ProofKit
import Derived.OpenShut
import Derived.ChangeReads
import Derived.ChangeOld
import Derived.Deep.Slices
namespace Go.Proofs.Ytokljdkeegdniaa
open Go.ChangeShapes Go.WideShapes Go.ChangeAt Go.RowKit

/-- The types of the list L lead to types of L alone; no maps, no interfaces, no functions; a slice's element fills cells. -/
def closedB (P : Program) (L : List TypeId) : Bool := L.all fun t => match P.underlying t with
  | some .bool | some (.int _) | some (.float _) | some .string => true
  | some (.slice e) => L.contains e && decide (0 < P.cellsOf e)
  | some (.array _ e) => L.contains e
  | some (.struct fs) => fs.all fun f => L.contains f.type
  | _ => false

section
variable {H : Type} {enc : TypeId × Value → H} {P : Program} {w w' : World} {base : Nat} {sp : Nat → Bool} {held : Bool} {L : List TypeId}

theorem trodStep_sp {r r' : TypeId → List Value → Option (DataW H × List MemPlace)}
    (hr : ∀ t cs x, t ∈ L → r t cs = some x → (∀ p ∈ x.2, sp p.block = true) → r' t cs = some x) (hL : closedB P L = true) {t : TypeId} (ht : t ∈ L) {cs : List Value} {x : DataW H × List MemPlace}
    (h : DataW.trodStep enc P w base (fun _ => true) held r t cs = some x) (hs : ∀ p ∈ x.2, sp p.block = true) : DataW.trodStep enc P w base sp held r' t cs = some x := by
  have hB := List.all_eq_true.1 hL t ht
  unfold DataW.trodStep at h ⊢
  split at h
  case h_1 => exact h
  case h_2 => exact h
  case h_3 => exact h
  case h_4 => exact h
  case h_8 e a len cap hu =>
    simp only [hu, Bool.and_eq_true, decide_eq_true_eq, List.contains_iff_mem] at hB
    simp only at h ⊢
    split at h
    · rename_i hc
      rw [if_pos hc]
      simp only [Option.map_eq_some_iff, Option.bind_eq_some_iff, if_true] at h ⊢
      obtain ⟨elems, he, rest, hrest, rfl⟩ := h
      have one : ∀ (i : Nat) (y : DataW H × List MemPlace), y ∈ elems ++ rest →
          (w.cells? base (a.add (i * P.cellsOf e)) (P.cellsOf e)).bind (r e) = some y → (w.cells? base (a.add (i * P.cellsOf e)) (P.cellsOf e)).bind (r' e) = some y := by
        intro i y hy hv
        simp only [Option.bind_eq_some_iff] at hv ⊢
        obtain ⟨cs', hc', hy'⟩ := hv
        refine ⟨cs', hc', hr _ _ _ hB.1 hy' (fun p hp => hs p ?_)⟩
        simp only [List.mem_append, List.mem_flatMap]
        right
        exact ⟨y, by simpa using hy, hp⟩
      have hrl : rest.length = cap - len := by simpa using mapM_some_length hrest
      refine ⟨elems, mapM_carry he (fun i y hi hy => one i y (by simp [hy])), rest, ?_, rfl⟩
      by_cases h0 : rest = []
      · subst h0
        have hcl : cap - len = 0 := by simpa using hrl.symm
        rw [hcl]
        split <;> simp
      · have hlt : 0 < rest.length := List.length_pos_iff.2 h0
        have hsp : sp a.block = true := by
          refine hs (.cell a.block (a.off + 0)) ?_
          simp only [List.mem_append]
          left
          exact MemPlace.mem_row.2 ⟨0, Nat.mul_pos (by omega) hB.2, rfl⟩
        rw [if_pos hsp]
        exact mapM_carry hrest (fun j y hj hy => one (len + j) y (by simp [hy]))
    · cases h
  case h_9 fs hu =>
    simp only [hu, Array.all_eq_true_iff_forall_mem, List.contains_iff_mem] at hB
    split at h
    · rename_i hc
      rw [if_pos hc]
      simp only [Option.map_eq_some_iff] at h ⊢
      obtain ⟨xs, hx, rfl⟩ := h
      exact ⟨xs, mapM_carry hx (fun f y hf hy hv => hr _ _ _ (hB f (by simpa using hf)) hv (fun p hp => hs p (List.mem_flatMap.2 ⟨y, hy, hp⟩))), rfl⟩
    · cases h
  case h_10 n e hu =>
    simp only [hu, List.contains_iff_mem] at hB
    split at h
    · rename_i hc
      rw [if_pos hc]
      simp only [Option.map_eq_some_iff] at h ⊢
      obtain ⟨xs, hx, rfl⟩ := h
      exact ⟨xs, mapM_carry hx (fun f y _ hy hv => hr _ _ _ hB hv (fun p hp => hs p (List.mem_flatMap.2 ⟨y, hy, hp⟩))), rfl⟩
    · cases h
  case h_7 => exact h
  all_goals first | (cases h; done) | (exfalso; simp_all)

theorem trod_sp (hL : closedB P L = true) (hE : Ext w w') : ∀ (n : Nat) (t : TypeId) (cs : List Value) (x : DataW H × List MemPlace), t ∈ L → DataW.trod enc P w base (fun _ => true) held n t cs = some x → (∀ p ∈ x.2, sp p.block = true) →
    DataW.trod enc P w' base sp held n t cs = some x := by
  have key : ∀ (n : Nat) (t : TypeId) (cs : List Value) (x : DataW H × List MemPlace), t ∈ L → DataW.trod enc P w base (fun _ => true) held n t cs = some x → (∀ p ∈ x.2, sp p.block = true) → DataW.trod enc P w base sp held n t cs = some x := by
    intro n
    induction n with
    | zero => intro t cs x _ h; simp [DataW.trod] at h
    | succ n ih =>
      intro t cs x ht h hs
      rw [DataW.trod_step] at h ⊢
      exact trodStep_sp ih hL ht h hs
  intro n t cs x ht h hs
  refine DataW.trod_carry n t cs x (key n t cs x ht h hs) (fun p hp => ?_)
  have hlt := DataW.trod_lt n t cs x h p hp
  cases p with
  | cell b o => exact cell_of_blk (hE.blk hlt) o
  | map b => exact hE.blk hlt

theorem trodAll_sp (hL : closedB P L = true) (hE : Ext w w') : ∀ {ts : List TypeId} {vs : List Value} {ds : List (DataW H)} {ps : List MemPlace}, (∀ t ∈ ts, t ∈ L) → DataW.TrodAll enc P w base (fun _ => true) held ts vs ds ps → (∀ p ∈ ps, sp p.block = true) →
    DataW.TrodAll enc P w' base sp held ts vs ds ps
  | [], _, _, _, _, h, _ => by
    obtain ⟨rfl, rfl, rfl⟩ := trodAll_nil h
    rfl
  | t :: ts, _, _, _, hts, h, hs => by
    obtain ⟨v, vs1, d, ds1, a, b, rfl, rfl, rfl, h1, h2⟩ := trodAll_cons h
    obtain ⟨fuel, hf⟩ := h1
    exact ⟨a, b, ⟨fuel, trod_sp hL hE fuel t _ _ (hts t (by simp)) hf (fun p hp => hs p (by simp [hp]))⟩, trodAll_sp hL hE (fun t' h' => hts t' (by simp [h'])) h2 (fun p hp => hs p (by simp [hp])), rfl⟩

/-- What a law's row asks behind the call: true; the arguments as before. -/
theorem law_post {f : Func} {s : ChangeSpec} {apart fresh handsOn again : Bool} {W W' : World} {args : Array Value} {ds gs : List (DataW H)} {before : List MemPlace} {tb : TypeId}
    (hW : DataW.Whole enc P f.params.toList s.vars apart W args.toList ds gs before) (hvars : s.vars = []) (hL : closedB P L = true) (hts : ∀ t ∈ f.params.toList, t ∈ L) (hE : Ext W W')
    (hr : f.resultTypes = #[tb]) (hb : P.underlying tb = some .bool) (hfn : (s.fn H (ds ++ gs)).results = [.lit (.bool true)] ∧ (s.fn H (ds ++ gs)).args = ds ∧ (s.fn H (ds ++ gs)).vars = []) :
    s.post enc P f apart fresh handsOn again W args (.bool true) W' := by
  have hW0 := hW
  obtain ⟨p, q, hA, hV, rfl, hz, hn⟩ := hW
  rw [hvars] at hV
  obtain ⟨rfl, rfl⟩ := trodVars_none hV
  have hsz : (Value.bool true).resultList f.resultTypes.size = [.bool true] := by rw [hr]; rfl
  have hargs : ∀ sp : Nat → Bool, (∀ x ∈ p, sp x.block = true) → DataW.TrodAll enc P W' 0 sp true f.params.toList args.toList (s.fn H (ds ++ [])).args p := fun sp hsp => by
    rw [hfn.2.1]
    exact trodAll_sp hL hE hts hA hsp
  have hres : ∀ (b : Nat) (sp : Nat → Bool) (hd : Bool), DataW.TrodAll enc P W' b sp hd f.resultTypes.toList ((Value.bool true).resultList f.resultTypes.size) (s.fn H (ds ++ [])).results [] := fun b sp hd => by
    rw [hfn.1, hsz, hr]
    exact trodAll_cons_mk (shut_bool hb _) trodAll_mk0
  have hvs : ∀ sp : Nat → Bool, DataW.TrodVars enc P W' sp s.vars (s.fn H (ds ++ [])).vars [] := fun sp => by rw [hvars, hfn.2.2]; rfl
  have hlt := DataW.Whole.lt hW0
  have hold : ∀ x ∈ p, (fun b => decide (b < W.heap.size)) x.block = true := fun x hx => by simpa using hlt x (by simp [hx])
  refine ⟨ds, [], p ++ [], [], p, [], hW0, hres _ _ _, hargs _ hold, hvs _, Below.frame hE _, fun _ => ⟨fun j t r h1 h2 => ?_, _, _, ([] ++ p) ++ [], ⟨[] ++ p, [], trodAll_append (hargs _ (fun _ _ => rfl)) (hres _ _ _), hvs _, rfl, fun b off hp => ?_, fun ha => ?_⟩, fun x hx _ => ?_⟩⟩
  · rw [hsz] at h2
    rw [hr] at h1
    match j, h1, h2 with
    | 0, h1, h2 =>
      simp at h1 h2
      subst h1; subst h2
      exact okWide_bool_mk hb _
  · have hp' : MemPlace.cell b off ∈ p ++ [] := by simpa using hp
    exact (frozen_of_blk (hE.blk (hlt _ hp')) off).trans (hz b off hp')
  · simpa using hn ha
  · simpa using hx
end

/-! ### a slice opened, whatever its elements -/
theorem open_sl {α H : Type} {enc : TypeId × Value → H} {P : Program} {w : World} {base b0 : Nat} {spare : Nat → Bool} {held : Bool} {r : Reach} {t e : TypeId} {v : Value} {d : DataW H} {ps : List MemPlace} (enc' : α → List Value) (k : Nat) (hk : ∀ m, (enc' m).length = k) (hk0 : 0 < k) (Q : α → Prop)
    (ht : P.underlying t = some (.slice e)) (hC : P.cellsOf e = k) (hdec : ∀ (n : Nat) (cs : List Value) (x : DataW H × List MemPlace), DataW.trod enc P w base spare held n e cs = some x → ∃ m, cs = enc' m ∧ Q m)
    (hval : Value.okWide P w r b0 t v) (hd : DataW.Trod enc P w base spare held t v d ps) : ∃ l, Sl enc' k w v l ∧ ∀ m ∈ l, Q m := by
  obtain ⟨fuel, hf⟩ := hd
  have hv : v.cells.toList = [v] := by
    have h := hval
    simp only [Value.okWide, ht] at h
    cases v <;> first | rfl | (simp [Cell.okWide, Cell.ok] at h)
  rw [hv] at hf
  rcases Deep.open_slice ht hf with ⟨hcs, _⟩ | ⟨a, len, cap, m, n, D, Pl, hcs, hb, hl, hm, hmm, _, hi⟩
  · injection hcs with hcs
    subst hcs
    exact ⟨[], Sl.nil, by simp⟩
  · injection hcs with hcs
    subst hcs
    rw [hC] at hi
    have hlm : len ≤ m := by rw [hmm]; split <;> omega
    have one : ∀ i, i < len → ∃ x : α, w.cells? base (a.add (i * k)) k = some (enc' x) ∧ Q x := fun i h => by
      obtain ⟨cs', h1, h2⟩ := hi i (by omega)
      obtain ⟨x, rfl, hq⟩ := hdec _ _ _ h2
      exact ⟨x, h1, hq⟩
    by_cases h0 : len = 0
    · subst h0
      exact ⟨[], ⟨some a, cap, rfl, Nat.zero_le _, hm, fun h => absurd rfl h⟩, by simp⟩
    · have hlen : 0 < len := by omega
      have hne : Nonempty α := let ⟨x, _⟩ := one 0 hlen; ⟨x⟩
      have hsel : ∃ g : Nat → α, ∀ i, i < len → w.cells? base (a.add (i * k)) k = some (enc' (g i)) ∧ Q (g i) :=
        ⟨fun i => if h : i < len then Classical.choose (one i h) else Classical.choice hne, fun i h => by simp only [h, dif_pos]; exact Classical.choose_spec (one i h)⟩
      obtain ⟨g, hg⟩ := hsel
      have hspot : a.spot = none := by
        have h1 := (World.cells?_some (hg 0 hlen).1).2.2 0 hk0
        have h2 : a.add (0 * k) = a := by simp [Addr.add]
        rw [h2] at h1
        have h3 : a.add 0 = a := by simp [Addr.add]
        rw [h3, List.getElem?_eq_getElem (by rw [hk]; exact hk0)] at h1
        unfold World.cell? at h1
        split at h1
        · split at h1
          · cases h1
          · rename_i hs; simpa using hs
        · cases h1
      obtain ⟨b, off, sp⟩ := a
      simp only at hspot
      subst hspot
      refine ⟨(List.range len).map g, ⟨some ⟨b, off, none⟩, cap, by simp, by simpa using hl, hm, fun _ => ⟨b, off, rfl, ?_, fun j x hx i u hu => ?_⟩⟩, fun x hx => ?_⟩
      · have h1 := (World.cells?_some (hg 0 hlen).1).2.2 0 hk0
        simp only [Addr.add, Nat.zero_mul, if_true] at h1
        rw [List.getElem?_eq_getElem (by rw [hk]; exact hk0)] at h1
        exact cell_lt h1
      · have hj : j < len := by have := (List.getElem?_eq_some_iff.1 hx).1; simpa using this
        have hx' : g j = x := by simpa [List.getElem?_map, hj] using hx
        have hik : i < k := by have := (List.getElem?_eq_some_iff.1 hu).1; rw [hk] at this; exact this
        have h1 := (World.cells?_some (hg j hj).1).2.2 i hik
        rw [hx', hu] at h1
        rw [← h1]
        have e : (Addr.add (Addr.add ⟨b, off, none⟩ (j * k)) i) = ⟨b, off + j * k + i, none⟩ := by
          unfold Addr.add
          split
          · split
            · rename_i h1 h2; simp [h1, h2]
            · rename_i h1 h2; simp [h1]
          · split
            · rename_i h1 h2; simp [h2]
            · simp
        rw [e]
      · obtain ⟨i, hi', rfl⟩ := List.mem_map.1 hx
        exact (hg i (by simpa using hi')).2
end Go.Proofs.Ytokljdkeegdniaa
