/-
  Lists of messages with the same members, sorted by their ids: one list.
-/
import Derived.Test.YtbjondnombnpbaaCmpM
namespace Go.Proofs.Ytbjondnombnpbaa
open Go.RowKit Go.Sort

def keyS (m : Ms) : Int × Int := (m.f, m.c)
theorem sorted_unique : ∀ {a b : List Ms}, a.Perm b → (a.map keyS).Nodup → a.Pairwise (fun x y => ltOf cmpM y x = false) → b.Pairwise (fun x y => ltOf cmpM y x = false) → a = b
  | [], b, hp, _, _, _ => by rw [List.nil_perm.1 hp]
  | x :: t, [], hp, _, _, _ => by have := hp.length_eq; simp at this
  | x :: t, y :: u, hp, hn, ha, hb => by
    have hxy : x = y := by
      refine Classical.byContradiction fun hne => ?_
      have h1 : x ∈ u := by rcases List.mem_cons.1 (hp.mem_iff.1 (List.mem_cons_self ..)) with e | e; exact absurd e hne; exact e
      have h2 : y ∈ t := by rcases List.mem_cons.1 (hp.mem_iff.2 (List.mem_cons_self ..)) with e | e; exact absurd e.symm hne; exact e
      have p1 := List.rel_of_pairwise_cons hb h1
      have p2 := List.rel_of_pairwise_cons ha h2
      rw [ltOf_cmpM] at p1 p2
      unfold ltM at p1 p2
      have hk : keyS x = keyS y := by unfold keyS; simp at p1 p2 ⊢; omega
      simp only [List.map_cons, List.nodup_cons] at hn
      exact hn.1 (by rw [hk]; exact List.mem_map_of_mem h2)
    subst hxy
    simp only [List.map_cons, List.nodup_cons] at hn
    rw [sorted_unique (List.Perm.cons_inv hp) hn.2 (List.Pairwise.of_cons ha) (List.Pairwise.of_cons hb)]

end Go.Proofs.Ytbjondnombnpbaa
