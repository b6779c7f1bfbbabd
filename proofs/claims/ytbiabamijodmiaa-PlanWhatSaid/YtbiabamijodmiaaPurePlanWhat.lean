import Derived.Test.YtbiabamijodmiaaPrintK
import Derived.Test.YtbiabamijodmiaaPureRight
import Derived.Test.YtbiabamijodmiaaPurePlanCounts
namespace Go.Proofs.Ytbiabamijodmiaa.Pure
open Go.RowKit Go.Proofs.Ytbiabamijodmiaa.Print Go.Proofs.YtbiabamijodmiaaW.PrintWords Go.Proofs.YtbiabamijodmiaaW.PrintLast Go.Proofs.YtbiabamijodmiaaW.PrintMore Right

theorem what_ref (a : Int) (h0 : -9223372036854775808 ≤ a) (h1 : a < 9223372036854775808) : escritoireref05_What.f 7 a = some (Counts.What a) := by
  unfold escritoireref05_What.f Counts.What
  by_cases c0 : a < 0
  · rw [if_pos c0, if_pos c0]
    rfl
  · rw [if_neg c0, if_neg c0]
    by_cases c5 : a < 2824
    · rw [decide_eq_false (show ¬ a ≥ 2824 by omega)]
      simp only [escritoireref05_What.j0]
      rw [if_neg (show ¬ (false = true) by decide)]
      by_cases c1 : a < 8
      · rw [if_pos c1, if_pos c1]
      · rw [if_neg c1, if_neg c1]
        by_cases c2 : a < 200
        · rw [if_pos c2, if_pos c2, wrap_id (n := a - 8) (by omega) (by omega), Int.tdiv_eq_ediv_of_nonneg (by omega), wrap_id (by omega) (by omega)]
        · rw [if_neg c2, if_neg c2]
          by_cases c3 : a < 296
          · rw [if_pos c3, if_pos c3, wrap_id (n := a - 200) (by omega) (by omega)]
          · rw [if_neg c3, if_neg c3]
            by_cases c4 : a < 1288
            · rw [if_pos c4, if_pos c4, wrap_id (n := a - 296) (by omega) (by omega), Int.tdiv_eq_ediv_of_nonneg (by omega), wrap_id (by omega) (by omega)]
            · rw [if_neg c4, if_neg c4, if_pos c5, wrap_id (n := a - 1288) (by omega) (by omega), Int.tdiv_eq_ediv_of_nonneg (by omega), wrap_id (by omega) (by omega)]
    · rw [decide_eq_true (show a ≥ 2824 by omega)]
      rw [if_neg (by omega), if_neg (by omega), if_neg (by omega), if_neg (by omega), if_neg (by omega)]
      rfl
theorem what_up (a : Int) (h0 : -9223372036854775808 ≤ a) (h1 : a < 9223372036854775808) {k : Nat} (hk : 7 ≤ k) : plan_What.f k a = some (Counts.What a) := up (fun k => plan_What.mono a k) hk (Counts.What_f a h0 h1)
theorem whatr_up (a : Int) (h0 : -9223372036854775808 ≤ a) (h1 : a < 9223372036854775808) {k : Nat} (hk : 7 ≤ k) : escritoireref05_What.f k a = some (Counts.What a) := up (fun k => escritoireref05_What.mono a k) hk (what_ref a h0 h1)
theorem open_up (a : Int) (h0 : -9223372036854775808 ≤ a) (h1 : a < 9223372036854775808) {k : Nat} (hk : 7 ≤ k) : ∃ b, plan_Open.f k a = some b ∧ escritoireref05_Open.f k a = some b := by
  unfold plan_Open.f escritoireref05_Open.f
  rw [what_up a h0 h1 hk, whatr_up a h0 h1 hk]
  simp only [Option.bind_some]
  split
  · exact ⟨true, rfl, rfl⟩
  · split
    · exact ⟨true, rfl, rfl⟩
    · exact ⟨_, rfl, rfl⟩
theorem tail (a : Int) (h0 : -9223372036854775808 ≤ a) (h1 : a < 9223372036854775808) (l : List Int) (n x7 x8 i : Int) (y : List Int) (hy : y.length = 2824) (k : Nat) (hk : 20 ≤ k) : escritoirelaw05_PlanWhat.j1 (k + 1) a l n x7 x8 x7 x8 y i false = some true := by
  unfold escritoirelaw05_PlanWhat.j1
  obtain ⟨b, o1, o2⟩ := open_up a h0 h1 (k := k) (by omega)
  rw [if_neg (by decide), if_pos rfl, if_pos rfl, o1, o2]
  simp only [Option.bind_some]
  rw [if_pos (by simp), right_up l hk, ref_up l hk]
  simp only [Option.bind_some]
  rw [if_pos (by simp), right_up y hk, ref_up y hk]
  simp only [Option.bind_some]
  obtain ⟨i0, i1⟩ := index n (n := 2825) (by omega) (by omega)
  generalize wrap64 (Int.tmod (IntKind.u64.wrap n) 2825) = m at *
  rw [if_pos (by simp), if_pos i0, if_pos (by omega), right_up _ hk, ref_up _ hk]
  simp
theorem loop (a : Int) (h0 : -9223372036854775808 ≤ a) (h1 : a < 9223372036854775808) (l : List Int) (n x7 x8 : Int) : ∀ (r i : Nat) (y : List Int) (k : Nat), y.length = 2824 → 12 ≤ i + r → i ≤ 12 → 22 + 2 * r ≤ k → escritoirelaw05_PlanWhat.l0 k a l n x7 x8 x7 x8 y (i : Int) = some true := by
  intro r
  induction r with
  | zero =>
    intro y_i y k hy hi hi2 hk
    obtain ⟨k, rfl⟩ : ∃ j, k = j + 2 := ⟨k - 2, by omega⟩
    unfold escritoirelaw05_PlanWhat.l0
    rw [decide_eq_false (show ¬ (y_i : Int) < 12 by omega)]
    rw [tail a h0 h1 l n x7 x8 _ y hy k (by omega)]
    simp
  | succ r ih =>
    intro i y k hy hi hi2 hk
    obtain ⟨k, rfl⟩ : ∃ j, k = j + 2 := ⟨k - 2, by omega⟩
    unfold escritoirelaw05_PlanWhat.l0
    by_cases hl : (i : Int) < (l.length : Int)
    · rw [if_pos hl]
      by_cases h12 : (i : Int) < 12
      · rw [decide_eq_true h12]
        unfold escritoirelaw05_PlanWhat.j1
        rw [if_pos rfl, if_pos (by omega), if_pos hl, wrap_id (by omega) (by omega), show (i : Int) + 1 = ((i + 1 : Nat) : Int) from by omega]
        by_cases hz : rd l (i : Int) = 0
        · rw [if_pos hz]
          exact ih (i + 1) y k hy (by omega) (by omega) (by omega)
        · rw [if_neg hz, if_pos (by omega)]
          exact ih (i + 1) _ k (by rw [List.length_set]; exact hy) (by omega) (by omega) (by omega)
      · rw [decide_eq_false h12]
        exact tail a h0 h1 l n x7 x8 _ y hy k (by omega)
    · rw [if_neg hl]
      exact tail a h0 h1 l n x7 x8 _ y hy k (by omega)
theorem what_all (a0 a2 : Int) (l1 : List Int) (h0 : -9223372036854775808 ≤ a0) (h1 : a0 < 9223372036854775808) (K : Nat) (hK : 60 ≤ K) : escritoirelaw05_PlanWhat.f K a0 l1 a2 = some true := by
  unfold escritoirelaw05_PlanWhat.f
  have hz : (List.replicate 2824 (0 : Int)).length = 2824 := List.length_replicate
  generalize List.replicate 2824 (0 : Int) = z at *
  rw [up (fun k => escritoirelaw05_lives.mono k) (show 20 ≤ K by omega) lives_f]
  simp only [Option.bind_some]
  rw [if_pos trivial, what_up a0 h0 h1 (by omega), whatr_up a0 h0 h1 (by omega)]
  simp only [Option.bind_some]
  rw [if_pos (by omega), up (fun k => plan_Head.mono k) (show 20 ≤ K by omega) head_f]
  simp only [Option.bind_some]
  exact loop a0 h0 h1 l1 a2 _ _ 12 0 _ K (by rw [cpy_len' _ _ _ (by omega), hz]) (by omega) (by omega) (by omega)
theorem PlanWhat : escritoirelaw05_PlanWhat.Pure := by
  intro a0 l1 a2 ha0 hl1 ha2
  obtain ⟨h0, h1⟩ : -9223372036854775808 ≤ a0 ∧ a0 < 9223372036854775808 := by
    have := ha0
    simp [Lit.wf, IntKind.min, IntKind.max, IntKind.signed, IntKind.bits] at this
    omega
  exact ⟨60, what_all a0 a2 l1 h0 h1 60 (Nat.le_refl _)⟩

end Go.Proofs.Ytbiabamijodmiaa.Pure
