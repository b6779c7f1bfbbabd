/- NamesBuckets in plain Lean. -/
import Derived.Test.YtmbpaienbmbhfaaDoorPureBase
namespace Go.Proofs.YtmbpaienbmbhfaaDoor.Pure
open Go Go.RowKit Go.Proofs.YtmbpaienbmbhfaaDoor.Str Go.Proofs.YtmbpaienbmbhfaaDoor.Print Go.Proofs.YtmbpaienbmbhfaaDoorW.PrintWords Go.Proofs.YtmbpaienbmbhfaaDoorW.PrintLast Go.Proofs.YtmbpaienbmbhfaaDoorW.PrintMore
set_option linter.unusedVariables false
theorem hash_range (l : List Int) : ∀ h, 0 ≤ h → h < 18446744073709551616 → 0 ≤ hashFrom h l ∧ hashFrom h l < 18446744073709551616 := by
  induction l with
  | nil => intro h h0 h1; exact ⟨h0, h1⟩
  | cons c r ih =>
    intro h _ _
    refine ih (hashStep h c) ?_ ?_
    · unfold hashStep; rw [wrapu]; omega
    · unfold hashStep; rw [wrapu]; omega
theorem hash_some (a : ByteArray) (h : a.size ≤ 140737488351232) : ∃ H, words_Hash.f a = some H ∧ 0 ≤ H ∧ H < 18446744073709551616 :=
  ⟨_, if_pos (by omega), hash_range _ _ (by omega) (by omega)⟩
theorem bucket_eq {a : ByteArray} {H n : Int} (h : words_Hash.f a = some H) (h0 : 0 ≤ H) (h1 : H < 18446744073709551616) (hn : 1 ≤ n) (hn2 : n < 9223372036854775808) : names_Bucket.f a n = some (H % n) := by
  unfold names_Bucket.f
  have hm := Int.emod_lt_of_pos H (show 0 < n by omega)
  have hm0 := Int.emod_nonneg H (show n ≠ 0 by omega)
  rw [if_neg (by omega), h, Option.bind_some, wrapu_id (by omega) (by omega), if_neg (by omega), Int.tmod_eq_emod_of_nonneg h0, wrap_id (by omega) (by omega)]
theorem NamesBuckets : escritoirelaw04_NamesBuckets.Pure := by
  intro a0 a1 h0 h1
  apply Ev.rounds
  obtain ⟨H, hH, H0, H1⟩ := hash_some a0 h0
  obtain ⟨n, hn⟩ : ∃ n, wrap64 (1 + (wrap64 (Int.tmod (IntKind.u64.wrap (a1)) 1000))) = n := ⟨_, rfl⟩
  have hnr : 1 ≤ n ∧ n ≤ 1000 := by
    rw [← hn, wrapu]
    have g0 : 0 ≤ a1 % 18446744073709551616 := by omega
    rw [Int.tmod_eq_emod_of_nonneg g0]
    have g1 : 0 ≤ (a1 % 18446744073709551616) % 1000 ∧ (a1 % 18446744073709551616) % 1000 < 1000 := by omega
    generalize (a1 % 18446744073709551616) % 1000 = y at g1
    rw [wrap_id (n := y) (by omega) (by omega), wrap_id (by omega) (by omega)]
    omega
  have w2 : wrap64 (2 * n) = 2 * n := wrap_id (by omega) (by omega)
  have e1 := bucket_eq hH H0 H1 hnr.1 (by omega)
  have e2 := bucket_eq (n := 2 * n) hH H0 H1 (by omega) (by omega)
  have e3 := bucket_eq (n := 1) hH H0 H1 (by omega) (by omega)
  have e4 : names_Bucket.f a0 0 = some 0 := by unfold names_Bucket.f; rw [if_pos (by omega)]
  have ea : a0 ++ (⟨#[]⟩ : ByteArray) = a0 := ByteArray.append_empty
  have m0 := Int.emod_nonneg H (show n ≠ 0 by omega)
  have m1 := Int.emod_lt_of_pos H (show 0 < n by omega)
  have m2 := Int.emod_nonneg H (show 2 * n ≠ 0 by omega)
  have mm : (H % (2 * n)) % n = H % n := Int.emod_emod_of_dvd H (Int.dvd_mul_left 2 n)
  have m3 : H % 1 = 0 := Int.emod_one H
  refine Ev.congr (fun k => by unfold escritoirelaw04_NamesBuckets.f; rfl) (Ev.bind lives_ev ?_)
  refine Ev.congr (f := fun _ => some true) (fun k => ?_) (Ev.now _)
  rw [if_pos rfl, hn, w2, e1, Option.bind_some, e2, Option.bind_some, if_pos (by omega), if_pos (by omega), if_neg (by omega), Int.tmod_eq_emod_of_nonneg m2, if_pos mm, e3, Option.bind_some, if_pos m3, e4, Option.bind_some, if_pos rfl, if_pos (by omega), ea, e1, Option.bind_some]
  simp
end Go.Proofs.YtmbpaienbmbhfaaDoor.Pure
