/- Two patches as one, in plain Lean. -/
import Derived.Test.YtldlacphokbgcaaPureMakes
import Derived.Test.YtldlacphokbgcaaPurePatchMakes
namespace Go.Proofs.Ytldlacphokbgcaa.Pure
open Go.RowKit Go.Proofs.Ytldlacphokbgcaa.Print Go.Proofs.YtldlacphokbgcaaW.PrintWords Go.Proofs.YtldlacphokbgcaaW.PrintLast Go.Proofs.YtldlacphokbgcaaW.PrintMore Go.Proofs.Ytldlacphokbgcaa.Jo
set_option linter.unusedVariables false
def pairs (s : List S31) : List (Int × Int) := s.map fun c => (c.f0, c.f1)
def joinA (acc : List (Int × Int)) (s : List S31) : List (Int × Int) := s.foldl (fun m c => ML.put m c.f0 c.f1) acc
theorem joinM_eq (s : List S31) : joinM s = joinA [] s := rfl
theorem joinA_app (acc : List (Int × Int)) (s t : List S31) : joinA acc (s ++ t) = joinA (joinA acc s) t := by unfold joinA; rw [List.foldl_append]
theorem joinA_sorted (s : List S31) : ∀ acc, ML.Sorted acc → ML.Sorted (joinA acc s) := by
  induction s with
  | nil => intro acc h; exact h
  | cons c r ih => intro acc h; exact ih _ (ML.sorted_put h _ _)
theorem joinM_sorted (s : List S31) : ML.Sorted (joinM s) := joinA_sorted s [] List.Pairwise.nil
theorem get_none_lt {s : List (Int × Int)} {k : Int} (h : ∀ y ∈ s, k < y.1) : ML.get s k = none := by
  induction s with
  | nil => rfl
  | cons y r ih =>
    rw [ML.get_cons, if_neg (by have := h y (List.mem_cons_self ..); omega)]
    exact ih fun z hz => h z (List.mem_cons_of_mem _ hz)
theorem get_joinA (s : List S31) : s.Pairwise (fun a b => a.f0 < b.f0) → ∀ acc k, ML.get (joinA acc s) k = (ML.get (pairs s) k).or (ML.get acc k) := by
  induction s with
  | nil => intro _ acc k; rfl
  | cons c r ih =>
    intro h acc k
    obtain ⟨h1, h2⟩ := List.pairwise_cons.1 h
    show ML.get (joinA (ML.put acc c.f0 c.f1) r) k = (ML.get ((c.f0, c.f1) :: pairs r) k).or _
    rw [ih h2, ML.get_put, ML.get_cons]
    by_cases hk : c.f0 = k
    · have hn : ML.get (pairs r) k = none := get_none_lt fun y hy => by
        obtain ⟨d, hd, rfl⟩ := List.mem_map.1 hy
        have := h1 d hd
        rw [← hk]; exact this
      rw [hn, if_pos hk.symm, if_pos hk]; rfl
    · rw [if_neg (fun h => hk h.symm), if_neg hk]
theorem canon_pairs (s : List S31) : canonL (pairs s) = s := by
  unfold canonL pairs
  rw [List.map_map]
  exact List.map_id'' (fun c => rfl) s
theorem pairs_canon (m : List (Int × Int)) : pairs (canonL m) = m := by
  unfold canonL pairs
  rw [List.map_map]
  exact List.map_id'' (fun c => rfl) m
theorem canon_up {m : List (Int × Int)} (h : ML.Sorted m) : (canonL m).Pairwise (fun a b => a.f0 < b.f0) := by
  unfold canonL
  rw [List.pairwise_map]
  exact h
theorem pairs_sorted {s : List S31} (h : s.Pairwise (fun a b => a.f0 < b.f0)) : ML.Sorted (pairs s) := by
  unfold ML.Sorted pairs
  rw [List.pairwise_map]
  exact h
theorem join_canon {m : List (Int × Int)} (h : ML.Sorted m) : joinM (canonL m) = m := by
  refine ML.ext (joinM_sorted _) h fun k => ?_
  rw [joinM_eq, get_joinA _ (canon_up h), pairs_canon, ML.get_nil, Option.or_none]
theorem joinA_mem (s : List S31) : ∀ acc y, y ∈ joinA acc s → (∃ c ∈ s, c.f0 = y.1 ∧ c.f1 = y.2) ∨ y ∈ acc := by
  induction s with
  | nil => intro acc y h; exact Or.inr h
  | cons c r ih =>
    intro acc y h
    rcases ih _ _ h with ⟨d, hd, e⟩ | h
    · exact Or.inl ⟨d, List.mem_cons_of_mem _ hd, e⟩
    · unfold ML.put at h
      rcases ML.mem_ins.1 h with rfl | h
      · exact Or.inl ⟨c, List.mem_cons_self .., rfl, rfl⟩
      · exact Or.inr (List.mem_filter.1 h).1
theorem makeS_len (p : List S31) : ∀ a : List Int, (makeS a p).length = a.length := by
  induction p with
  | nil => intro a; rfl
  | cons c q ih => intro a; rw [makeS, List.foldl_cons]; exact (ih (put a c)).trans (put_len a c)
theorem makeS_app (a : List Int) (p q : List S31) : makeS a (p ++ q) = makeS (makeS a p) q := by unfold makeS; rw [List.foldl_append]
theorem snocInd {α : Type} {p : List α → Prop} (h0 : p []) (h1 : ∀ l x, p l → p (l ++ [x])) (l : List α) : p l := by
  rw [← List.reverse_reverse l]
  induction l.reverse with
  | nil => exact h0
  | cons x r ih => rw [List.reverse_cons]; exact h1 _ _ ih
theorem makeS_at (a : List Int) (s : List S31) (i : Nat) (hi : i < a.length) : (makeS a s)[i]? = some ((ML.get (joinM s) (i : Int)).getD a[i]) := by
  induction s using snocInd with
  | h0 => rw [show makeS a [] = a from rfl, List.getElem?_eq_getElem hi]; rfl
  | h1 s c ih =>
    rw [makeS_app, joinM_eq, joinA_app]
    show (put (makeS a s) c)[i]? = some ((ML.get (ML.put (joinA [] s) c.f0 c.f1) (i : Int)).getD a[i])
    rw [ML.get_put]
    have hl := makeS_len s a
    unfold put
    by_cases hk : (i : Int) = c.f0
    · rw [if_pos hk, if_pos (by rw [hl]; omega)]
      have : c.f0.toNat = i := by omega
      rw [this, List.getElem?_set_self (by omega)]
      rfl
    · rw [if_neg hk]
      split
      · rw [List.getElem?_set_ne (by omega)]; exact ih
      · exact ih
theorem make_canon (a : List Int) (s : List S31) : makeS a (canonL (joinM s)) = makeS a s := by
  refine List.ext_getElem? fun i => ?_
  by_cases hi : i < a.length
  · rw [makeS_at a _ i hi, makeS_at a _ i hi, join_canon (joinM_sorted s)]
  · rw [List.getElem?_eq_none (by rw [makeS_len]; omega), List.getElem?_eq_none (by rw [makeS_len]; omega)]
theorem join_self {p : List S31} (h : p.Pairwise (fun a b => a.f0 < b.f0)) : canonL (joinM (p ++ p)) = p := by
  have : joinM (p ++ p) = pairs p := by
    refine ML.ext (joinM_sorted _) (pairs_sorted h) fun k => ?_
    rw [joinM_eq, joinA_app, get_joinA p h, get_joinA p h, ML.get_nil, Option.or_none]
    cases ML.get (pairs p) k <;> rfl
  rw [this, canon_pairs]
theorem join_nil {p : List S31} (h : p.Pairwise (fun a b => a.f0 < b.f0)) : canonL (joinM p) = p := by
  have := join_canon (pairs_sorted h)
  rw [canon_pairs] at this
  rw [this, canon_pairs]
theorem join_right {p q : List S31} (hp : rightF (-1) p = true) (hq : rightF (-1) q = true) : rightF (-1) (canonL (joinM (p ++ q))) = true := by
  refine rightF_of _ _ (fun c hc => ?_) (canon_up (joinM_sorted _))
  obtain ⟨y, hy, rfl⟩ := List.mem_map.1 hc
  rcases joinA_mem _ _ _ hy with ⟨d, hd, e, _⟩ | h
  · show -1 < y.1
    rw [← e]
    rcases List.mem_append.1 hd with hd | hd
    · exact (rightF_up p _ hp).1 d hd
    · exact (rightF_up q _ hq).1 d hd
  · cases h
theorem joinA_len (s : List S31) : ∀ acc, (joinA acc s).length ≤ acc.length + s.length := by
  induction s with
  | nil => intro acc; exact Nat.le_refl _
  | cons c r ih =>
    intro acc
    have h1 := ih (ML.put acc c.f0 c.f1)
    have h2 := ML.length_put acc c.f0 c.f1
    show (joinA (ML.put acc c.f0 c.f1) r).length ≤ _
    simp; omega
theorem canon_len (m : List (Int × Int)) : (canonL m).length = m.length := by unfold canonL; simp
end Go.Proofs.Ytldlacphokbgcaa.Pure
