/- Rows behind an edge: what they are. -/
import Derived.Test.YtngncegokmppiaaFloG
namespace Go.Proofs.Ytngncegokmppiaa.Flo
open Go
set_option linter.unusedVariables false
set_option linter.unusedSimpArgs false
structure RInv (bs : List Bool) (n : Nat) (rs : List (Int × Int)) (fr : Int) : Prop where
  a : ∀ p ∈ rs, 0 ≤ p.1 ∧ 1 ≤ p.2 ∧ p.1 + p.2 < n ∧ (0 ≤ fr → p.1 + p.2 < fr)
  b : rs.Pairwise (fun p q => p.1 + p.2 < q.1)
  c : ∀ k : Nat, k < n → (bs.getD k false = true ↔ (∃ p ∈ rs, p.1 ≤ k ∧ (k : Int) < p.1 + p.2) ∨ (0 ≤ fr ∧ fr ≤ k))
  f : fr = -1 ∨ (0 ≤ fr ∧ fr < n)
theorem RInv.start (bs : List Bool) : RInv bs 0 [] (-1) := ⟨(fun p hp => by cases hp), List.Pairwise.nil, (fun k hk => by omega), .inl rfl⟩
theorem RInv.open' {bs : List Bool} {n : Nat} {rs : List (Int × Int)} {fr : Int} (h : RInv bs n rs fr) (hb : bs.getD n false = true) (hf : fr < 0) : RInv bs (n + 1) rs n := by
  have hf1 : fr = -1 := by rcases h.f with h1 | h1 <;> omega
  refine ⟨fun p hp => ?_, h.b, fun k hk => ?_, .inr (by omega)⟩
  · have := h.a p hp; omega
  · by_cases hkn : k < n
    · rw [h.c k hkn]
      constructor
      · rintro (h1 | h1)
        · exact .inl h1
        · omega
      · rintro (h1 | h1)
        · exact .inl h1
        · omega
    · obtain rfl : k = n := by omega
      exact ⟨fun _ => .inr (by omega), fun _ => hb⟩
theorem RInv.more {bs : List Bool} {n : Nat} {rs : List (Int × Int)} {fr : Int} (h : RInv bs n rs fr) (hb : bs.getD n false = true) (hf : 0 ≤ fr) : RInv bs (n + 1) rs fr := by
  have hf1 : fr < n := by rcases h.f with h1 | h1 <;> omega
  refine ⟨fun p hp => ?_, h.b, fun k hk => ?_, .inr (by omega)⟩
  · have := h.a p hp; omega
  · by_cases hkn : k < n
    · exact h.c k hkn
    · obtain rfl : k = n := by omega
      exact ⟨fun _ => .inr (by omega), fun _ => hb⟩
theorem RInv.close {bs : List Bool} {n : Nat} {rs : List (Int × Int)} {fr : Int} (h : RInv bs n rs fr) (hb : bs.getD n false = false) (hf : 0 ≤ fr) : RInv bs (n + 1) (rs ++ [(fr, (n : Int) - fr)]) (-1) := by
  have hf1 : fr < n := by rcases h.f with h1 | h1 <;> omega
  refine ⟨fun p hp => ?_, ?_, fun k hk => ?_, .inl rfl⟩
  · rcases List.mem_append.1 hp with hp | hp
    · have := h.a p hp; omega
    · obtain rfl : p = (fr, (n : Int) - fr) := by simpa using hp
      simp only
      omega
  · refine List.pairwise_append.2 ⟨h.b, List.pairwise_singleton _ _, fun p hp q hq => ?_⟩
    obtain rfl : q = (fr, (n : Int) - fr) := by simpa using hq
    have := h.a p hp
    simp only
    omega
  · by_cases hkn : k < n
    · rw [h.c k hkn]
      constructor
      · rintro (⟨p, hp, h1⟩ | h1)
        · exact .inl ⟨p, List.mem_append_left _ hp, h1⟩
        · exact .inl ⟨_, List.mem_append_right _ (List.mem_singleton.2 rfl), by simp only; omega⟩
      · rintro (⟨p, hp, h1⟩ | h1)
        · rcases List.mem_append.1 hp with hp | hp
          · exact .inl ⟨p, hp, h1⟩
          · obtain rfl : p = (fr, (n : Int) - fr) := by simpa using hp
            simp only at h1
            exact .inr (by omega)
        · omega
    · obtain rfl : k = n := by omega
      rw [hb]
      constructor
      · intro h1; cases h1
      · rintro (⟨p, hp, h1⟩ | h1)
        · rcases List.mem_append.1 hp with hp | hp
          · have := h.a p hp; omega
          · obtain rfl : p = (fr, (k : Int) - fr) := by simpa using hp
            simp only at h1
            omega
        · omega
theorem RInv.skip {bs : List Bool} {n : Nat} {rs : List (Int × Int)} {fr : Int} (h : RInv bs n rs fr) (hb : bs.getD n false = false) (hf : fr < 0) : RInv bs (n + 1) rs fr := by
  have hf1 : fr = -1 := by rcases h.f with h1 | h1 <;> omega
  refine ⟨fun p hp => ?_, h.b, fun k hk => ?_, .inl hf1⟩
  · have := h.a p hp; omega
  · by_cases hkn : k < n
    · exact h.c k hkn
    · obtain rfl : k = n := by omega
      rw [hb]
      constructor
      · intro h1; cases h1
      · rintro (⟨p, hp, h1⟩ | h1)
        · have := h.a p hp; omega
        · omega
theorem runSt_inv (bs : List Bool) : ∀ n : Nat, RInv bs n (runSt bs n).1 (runSt bs n).2 := by
  intro n
  induction n with
  | zero => exact RInv.start bs
  | succ n ih =>
    unfold runSt
    cases hb : bs.getD n false with
    | true =>
      rw [if_pos rfl]
      by_cases h : (runSt bs n).2 < 0
      · simp only [if_pos h]; exact ih.open' hb h
      · simp only [if_neg h]; exact ih.more hb (by omega)
    | false =>
      rw [if_neg (by simp)]
      by_cases h : 0 ≤ (runSt bs n).2
      · rw [if_pos h]; exact ih.close hb h
      · rw [if_neg h]; exact ih.skip hb (by omega)
/-- The rows: none empty, one behind the other with a gap, and all that is behind the edge. -/
structure Rows (bs : List Bool) (rs : List (Int × Int)) : Prop where
  a : ∀ p ∈ rs, 0 ≤ p.1 ∧ 1 ≤ p.2 ∧ p.1 + p.2 ≤ bs.length
  b : rs.Pairwise (fun p q => p.1 + p.2 < q.1)
  c : ∀ k : Nat, k < bs.length → (bs.getD k false = true ↔ ∃ p ∈ rs, p.1 ≤ k ∧ (k : Int) < p.1 + p.2)
theorem runsL_rows (bs : List Bool) : Rows bs (runsL bs) := by
  have h := runSt_inv bs bs.length
  unfold runsL
  generalize (runSt bs bs.length).1 = rs at h ⊢
  generalize (runSt bs bs.length).2 = fr at h ⊢
  by_cases hf : 0 ≤ fr
  · rw [if_pos hf]
    have hf1 : fr < bs.length := by rcases h.f with h1 | h1 <;> omega
    refine ⟨fun p hp => ?_, ?_, fun k hk => ?_⟩
    · rcases List.mem_append.1 hp with hp | hp
      · have := h.a p hp; omega
      · obtain rfl : p = (fr, (bs.length : Int) - fr) := by simpa using hp
        simp only
        omega
    · refine List.pairwise_append.2 ⟨h.b, List.pairwise_singleton _ _, fun p hp q hq => ?_⟩
      obtain rfl : q = (fr, (bs.length : Int) - fr) := by simpa using hq
      have := h.a p hp
      simp only
      omega
    · rw [h.c k hk]
      constructor
      · rintro (⟨p, hp, h1⟩ | h1)
        · exact ⟨p, List.mem_append_left _ hp, h1⟩
        · exact ⟨_, List.mem_append_right _ (List.mem_singleton.2 rfl), by simp only; omega⟩
      · rintro ⟨p, hp, h1⟩
        rcases List.mem_append.1 hp with hp | hp
        · exact .inl ⟨p, hp, h1⟩
        · obtain rfl : p = (fr, (bs.length : Int) - fr) := by simpa using hp
          simp only at h1
          exact .inr (by omega)
  · rw [if_neg hf]
    refine ⟨fun p hp => ?_, h.b, fun k hk => ?_⟩
    · have := h.a p hp; omega
    · rw [h.c k hk]
      constructor
      · rintro (h1 | h1)
        · exact h1
        · omega
      · exact fun h1 => .inl h1
end Go.Proofs.Ytngncegokmppiaa.Flo
