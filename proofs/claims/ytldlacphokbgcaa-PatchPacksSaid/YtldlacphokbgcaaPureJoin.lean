/- Two patches as one, in plain Lean. -/
import Derived.Test.YtldlacphokbgcaaPureMakes
import Derived.Test.YtldlacphokbgcaaPurePatchMakes
namespace Go.Proofs.Ytldlacphokbgcaa.Pure
open Go.RowKit Go.Proofs.Ytldlacphokbgcaa.Print Go.Proofs.YtldlacphokbgcaaW.PrintWords Go.Proofs.YtldlacphokbgcaaW.PrintLast Go.Proofs.YtldlacphokbgcaaW.PrintMore Go.Proofs.Ytldlacphokbgcaa.Jo
set_option linter.unusedVariables false
def pairs (s : List S31) : List (Int × Int) := s.map fun c => (c.f0, c.f1)
def joinA (acc : List (Int × Int)) (s : List S31) : List (Int × Int) := s.foldl (fun m c => ML.put m c.f0 c.f1) acc
theorem joinM_eq (s : List S31) : joinM s = joinA [] s := rfl
theorem joinA_app (acc : List (Int × Int)) (s t : List S31) : joinA acc (s ++ t) = joinA (joinA acc s) t := by unfold joinA; rw [List.foldl_append]
theorem joinA_sorted (s : List S31) : ∀ acc, ML.Sorted acc → ML.Sorted (joinA acc s) := by
  induction s with
  | nil => intro acc h; exact h
  | cons c r ih => intro acc h; exact ih _ (ML.sorted_put h _ _)
theorem joinM_sorted (s : List S31) : ML.Sorted (joinM s) := joinA_sorted s [] List.Pairwise.nil
theorem get_none_lt {s : List (Int × Int)} {k : Int} (h : ∀ y ∈ s, k < y.1) : ML.get s k = none := by
  induction s with
  | nil => rfl
  | cons y r ih =>
    rw [ML.get_cons, if_neg (by have := h y (List.mem_cons_self ..); omega)]
    exact ih fun z hz => h z (List.mem_cons_of_mem _ hz)
theorem get_joinA (s : List S31) : s.Pairwise (fun a b => a.f0 < b.f0) → ∀ acc k, ML.get (joinA acc s) k = (ML.get (pairs s) k).or (ML.get acc k) := by
  induction s with
  | nil => intro _ acc k; rfl
  | cons c r ih =>
    intro h acc k
    obtain ⟨h1, h2⟩ := List.pairwise_cons.1 h
    show ML.get (joinA (ML.put acc c.f0 c.f1) r) k = (ML.get ((c.f0, c.f1) :: pairs r) k).or _
    rw [ih h2, ML.get_put, ML.get_cons]
    by_cases hk : c.f0 = k
    · have hn : ML.get (pairs r) k = none := get_none_lt fun y hy => by
        obtain ⟨d, hd, rfl⟩ := List.mem_map.1 hy
        have := h1 d hd
        rw [← hk]; exact this
      rw [hn, if_pos hk.symm, if_pos hk]; rfl
    · rw [if_neg (fun h => hk h.symm), if_neg hk]
theorem canon_pairs (s : List S31) : canonL (pairs s) = s := by
  unfold canonL pairs
  rw [List.map_map]
  exact List.map_id'' (fun c => rfl) s
theorem pairs_canon (m : List (Int × Int)) : pairs (canonL m) = m := by
  unfold canonL pairs
  rw [List.map_map]
  exact List.map_id'' (fun c => rfl) m
theorem canon_up {m : List (Int × Int)} (h : ML.Sorted m) : (canonL m).Pairwise (fun a b => a.f0 < b.f0) := by
  unfold canonL
  rw [List.pairwise_map]
  exact h
theorem pairs_sorted {s : List S31} (h : s.Pairwise (fun a b => a.f0 < b.f0)) : ML.Sorted (pairs s) := by
  unfold ML.Sorted pairs
  rw [List.pairwise_map]
  exact h
theorem join_canon {m : List (Int × Int)} (h : ML.Sorted m) : joinM (canonL m) = m := by
  refine ML.ext (joinM_sorted _) h fun k => ?_
  rw [joinM_eq, get_joinA _ (canon_up h), pairs_canon, ML.get_nil, Option.or_none]
theorem joinA_mem (s : List S31) : ∀ acc y, y ∈ joinA acc s → (∃ c ∈ s, c.f0 = y.1 ∧ c.f1 = y.2) ∨ y ∈ acc := by
  induction s with
  | nil => intro acc y h; exact Or.inr h
  | cons c r ih =>
    intro acc y h
    rcases ih _ _ h with ⟨d, hd, e⟩ | h
    · exact Or.inl ⟨d, List.mem_cons_of_mem _ hd, e⟩
    · unfold ML.put at h
      rcases ML.mem_ins.1 h with rfl | h
      · exact Or.inl ⟨c, List.mem_cons_self .., rfl, rfl⟩
      · exact Or.inr (List.mem_filter.1 h).1
theorem joinA_len (s : List S31) : ∀ acc, (joinA acc s).length ≤ acc.length + s.length := by
  induction s with
  | nil => intro acc; exact Nat.le_refl _
  | cons c r ih =>
    intro acc
    have h1 := ih (ML.put acc c.f0 c.f1)
    have h2 := ML.length_put acc c.f0 c.f1
    show (joinA (ML.put acc c.f0 c.f1) r).length ≤ _
    simp; omega
theorem canon_len (m : List (Int × Int)) : (canonL m).length = m.length := by unfold canonL; simp
end Go.Proofs.Ytldlacphokbgcaa.Pure
