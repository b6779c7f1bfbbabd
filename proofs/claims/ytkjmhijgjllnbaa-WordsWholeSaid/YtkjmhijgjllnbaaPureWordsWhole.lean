/- WordsWhole in plain Lean: a word in two fields. -/
import Derived.Test.YtkjmhijgjllnbaaPureBase
namespace Go.Proofs.Ytkjmhijgjllnbaa.Pure
open Go.RowKit Go.Proofs.Ytkjmhijgjllnbaa.Print Go.Proofs.YtkjmhijgjllnbaaW.PrintWords Go.Proofs.YtkjmhijgjllnbaaW.PrintLast Go.Proofs.YtkjmhijgjllnbaaW.PrintMore

theorem ones (n : Nat) (h : n < 64) : IntKind.u64.wrap ((shl .u64 1 (n : Int)) - 1) = ((2 ^ n - 1 : Nat) : Int) := by
  have h1 : 2 ^ n < 2 ^ 64 := Nat.pow_lt_pow_right (by decide) h
  have h2 := Nat.two_pow_pos n
  rw [show (1 : Int) = ((1 : Nat) : Int) from rfl, shln 1 n (by omega), Nat.shiftLeft_eq, Nat.one_mul, Nat.mod_eq_of_lt h1, wrapu_id (by omega) (by omega)]
  omega
theorem two_fields {w n : Nat} (hw : w < 2 ^ 64) (h1 : 1 ≤ n) (h2 : n ≤ 63) : putN (putN 0 0 n (getN w 0 n)) n (64 - n) (getN w n (64 - n)) = w := by
  refine words_eq (fun i hi => ?_) (putN_lt (putN_lt (by decide))) hw
  rw [putN_bit (putN_lt (by decide)) (by omega) (getN_lt _ _ _), putN_bit (by decide) (by omega) (getN_lt _ _ _), getN_bit, getN_bit]
  by_cases h : i < n
  · rw [if_neg (by omega), if_pos (by omega), decide_eq_true (by omega), Nat.sub_zero, Nat.zero_add, Bool.true_and]
  · rw [if_pos (by omega), decide_eq_true (by omega), show n + (i - n) = i by omega, Bool.true_and]
theorem whole {w : Nat} (hw : w < 2 ^ 64) : getN w 0 64 = w := by
  unfold getN
  rw [Nat.shiftRight_zero, Nat.mod_eq_of_lt hw]
theorem WordsWhole : escritoirelaw01_WordsWhole.Pure := by
  intro a0 a1 h0 h1
  obtain ⟨w, rfl, hw⟩ := wfu64 h0
  obtain ⟨n, hn, hn1, hn2⟩ : ∃ n : Nat, wrap64 (1 + wrap64 (Int.tmod (IntKind.u64.wrap a1) 63)) = (n : Int) ∧ 1 ≤ n ∧ n ≤ 63 := by
    have h1 : 0 ≤ IntKind.u64.wrap a1 := by rw [wrapu]; omega
    have h2 := Int.tmod_nonneg 63 h1
    have h3 := Int.tmod_lt_of_pos (IntKind.u64.wrap a1) (show (0 : Int) < 63 by omega)
    generalize Int.tmod (IntKind.u64.wrap a1) 63 = z at *
    rw [wrap_id (n := z) (by omega) (by omega), wrap_id (n := 1 + z) (by omega) (by omega)]
    exact ⟨(1 + z).toNat, by omega, by omega, by omega⟩
  have hm : wrap64 (64 - (n : Int)) = ((64 - n : Nat) : Int) := by rw [wrap_id (by omega) (by omega)]; omega
  have ok1 : okF ((0 : Nat) : Int) (n : Int) := by unfold okF; omega
  have ok2 : okF (n : Int) ((64 - n : Nat) : Int) := by unfold okF; omega
  have ok3 : okF ((0 : Nat) : Int) ((64 : Nat) : Int) := by unfold okF; omega
  have hlt : ∀ a b, b ≤ 64 → getN w a b < 2 ^ 64 := fun a b hb => Nat.lt_of_lt_of_le (getN_lt w a b) (Nat.pow_le_pow_right (by decide) hb)
  have g1 := Get_yes hw ok1
  have g2 := Get_yes hw ok2
  have g3 := Get_yes hw ok3
  have p1 := Put_yes (w := 0) (v := getN w 0 n) (by decide) (hlt _ _ (by omega)) ok1
  have p2 := Put_yes (w := putN 0 0 n (getN w 0 n)) (v := getN w n (64 - n)) (putN_lt (by decide)) (hlt _ _ (by omega)) ok2
  rw [if_pos (getN_lt _ _ _)] at p1 p2
  rw [two_fields hw hn1 hn2] at p2
  rw [whole hw] at g3
  have o1 := ones n (by omega)
  have o2 := ones (64 - n) (by omega)
  have l1 := getN_lt w 0 n
  have l2 := getN_lt w n (64 - n)
  have q1 : (0 : Int) ≤ (n : Int) := by omega
  have q2 : (0 : Int) ≤ ((64 - n : Nat) : Int) := by omega
  have q3 : ((getN w 0 n : Nat) : Int) ≤ ((2 ^ n - 1 : Nat) : Int) := by omega
  have q4 : ((getN w n (64 - n) : Nat) : Int) ≤ ((2 ^ (64 - n) - 1 : Nat) : Int) := by omega
  simp only [Int.natCast_zero, Int.cast_ofNat_Int] at g1 g3 p1
  unfold escritoirelaw01_WordsWhole.f
  rw [lives_eq]
  simp only [Option.bind_some, if_true, hn, hm, g1, g2, p1, p2, g3, q1, q2, o1, o2, q3, q4, decide_true]
end Go.Proofs.Ytkjmhijgjllnbaa.Pure
