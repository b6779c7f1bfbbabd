/- WordsHash in plain Lean: a step of the hash is one to one. -/
import Derived.Test.YtkjmhijgjllnbaaPureBase
namespace Go.Proofs.Ytkjmhijgjllnbaa.Pure
open Go.RowKit Go.Proofs.Ytkjmhijgjllnbaa.Print Go.Proofs.YtkjmhijgjllnbaaW.PrintWords Go.Proofs.YtkjmhijgjllnbaaW.PrintLast Go.Proofs.YtkjmhijgjllnbaaW.PrintMore

theorem mul_back (x : Int) (h0 : 0 ≤ x) (h1 : x < 18446744073709551616) : (x * 1099511628211 % 18446744073709551616) * 14886173955864302971 % 18446744073709551616 = x := by
  rw [Int.mul_emod, Int.emod_emod_of_dvd _ (Int.dvd_refl _), ← Int.mul_emod, Int.mul_assoc, show (1099511628211 * 14886173955864302971 : Int) = 1 + 18446744073709551616 * 887285111055 from by decide, Int.mul_add, Int.mul_one,
    show x * (18446744073709551616 * 887285111055) = 18446744073709551616 * (x * 887285111055) by rw [← Int.mul_assoc, Int.mul_comm x, Int.mul_assoc], Int.add_mul_emod_self_left]
  omega
def Wd (h : Int) : Prop := ∃ n : Nat, h = (n : Int) ∧ n < 2 ^ 64
theorem step_wd (h c : Int) : Wd (hashStep h c) := by
  unfold hashStep Wd
  rw [wrapu]
  exact ⟨(_ : Int).toNat, (Int.toNat_of_nonneg (Int.emod_nonneg _ (by decide))).symm, by
    have := Int.emod_lt_of_pos (Go.bits .xor .u64 h (IntKind.u64.wrap c) * 1099511628211) (show (0 : Int) < 18446744073709551616 by decide)
    have h2 := Int.emod_nonneg (Go.bits .xor .u64 h (IntKind.u64.wrap c) * 1099511628211) (show (18446744073709551616 : Int) ≠ 0 by decide)
    omega⟩
theorem step_eq (a d : Nat) (ha : a < 2 ^ 64) (hd : d < 2 ^ 64) (c : Int) (hc : IntKind.u64.wrap c = (d : Int)) : hashStep (a : Int) c = ((a ^^^ d : Nat) : Int) * 1099511628211 % 18446744073709551616 := by
  unfold hashStep
  rw [hc, bxor ha hd, wrapu]
theorem wd_wrap (c : Int) : Wd (IntKind.u64.wrap c) := by
  rw [wrapu]
  have h2 := Int.emod_nonneg c (show (18446744073709551616 : Int) ≠ 0 by decide)
  have h3 := Int.emod_lt_of_pos c (show (0 : Int) < 18446744073709551616 by decide)
  exact ⟨(c % 18446744073709551616).toNat, by omega, by omega⟩
theorem inj_nat (a b d : Nat) (e : a ^^^ d = b ^^^ d) : a = b := by
  have e4 : (a ^^^ d) ^^^ d = (b ^^^ d) ^^^ d := by rw [e]
  rwa [Nat.xor_assoc, Nat.xor_self, Nat.xor_zero, Nat.xor_assoc, Nat.xor_self, Nat.xor_zero] at e4
theorem mul_inj (x y : Int) (h0 : 0 ≤ x) (h1 : x < 18446744073709551616) (h2 : 0 ≤ y) (h3 : y < 18446744073709551616) (e : x * 1099511628211 % 18446744073709551616 = y * 1099511628211 % 18446744073709551616) : x = y := by
  have m1 := mul_back x h0 h1
  have m2 := mul_back y h2 h3
  rw [e] at m1
  exact m1.symm.trans m2
theorem step_inj {h g c : Int} (hh : Wd h) (hg : Wd g) (e : hashStep h c = hashStep g c) : h = g := by
  obtain ⟨a, rfl, ha⟩ := hh
  obtain ⟨b, rfl, hb⟩ := hg
  obtain ⟨d, hd, hd2⟩ := wd_wrap c
  rw [step_eq a d ha hd2 c hd, step_eq b d hb hd2 c hd] at e
  have ha2 : a ^^^ d < 2 ^ 64 := Nat.xor_lt_two_pow ha hd2
  have hb2 : b ^^^ d < 2 ^ 64 := Nat.xor_lt_two_pow hb hd2
  have h3 : ((a ^^^ d : Nat) : Int) < 18446744073709551616 := Int.ofNat_lt.mpr ha2
  have h4 : ((b ^^^ d : Nat) : Int) < 18446744073709551616 := Int.ofNat_lt.mpr hb2
  have e5 := mul_inj ((a ^^^ d : Nat) : Int) ((b ^^^ d : Nat) : Int) (Int.natCast_nonneg _) h3 (Int.natCast_nonneg _) h4 e
  exact congrArg Nat.cast (inj_nat a b d (Int.natCast_inj.mp e5))
theorem from_inj (l : List Int) : ∀ {h g : Int}, Wd h → Wd g → hashFrom h l = hashFrom g l → h = g := by
  induction l with
  | nil => intro h g _ _ e; exact e
  | cons c r ih =>
    intro h g hh hg e
    exact step_inj hh hg (ih (step_wd h c) (step_wd g c) e)
theorem from_wd (l : List Int) : ∀ {h : Int}, Wd h → Wd (hashFrom h l) := by
  induction l with
  | nil => intro h hh; exact hh
  | cons c r ih => intro h _; exact ih (step_wd h c)
theorem basis_wd : Wd 14695981039346656037 := ⟨14695981039346656037, rfl, by decide⟩
theorem hash_append (a c : ByteArray) : hashFrom 14695981039346656037 (bytesOf (a ++ c)) = hashFrom (hashFrom 14695981039346656037 (bytesOf a)) (bytesOf c) := by
  rw [bytesOf_append]
  unfold hashFrom
  rw [List.foldl_append]
theorem WordsHash : escritoirelaw01_WordsHash.Pure := by
  intro a b c ha hb hc
  have hs1 : (a ++ c).size = a.size + c.size := ByteArray.size_append ..
  have hs2 : (b ++ c).size = b.size + c.size := ByteArray.size_append ..
  unfold escritoirelaw01_WordsHash.f
  rw [lives_eq]
  simp only [Option.bind_some, if_true]
  have f : ∀ x : ByteArray, x.size ≤ 9223372036854775807 → words_Hash.f x = some (hashFrom 14695981039346656037 (bytesOf x)) := fun x h => by unfold words_Hash.f; rw [if_pos h]
  rw [f a (by omega), f b (by omega), f (a ++ c) (by omega), f (b ++ c) (by omega), hash_append, hash_append]
  simp only [Option.bind_some]
  have q1 : a.size + c.size ≤ 9223372036854775807 := by omega
  have q2 : b.size + c.size ≤ 9223372036854775807 := by omega
  simp only [q1, q2, if_true]
  by_cases e : hashFrom 14695981039346656037 (bytesOf a) = hashFrom 14695981039346656037 (bytesOf b)
  · rw [if_pos e, e]
    simp
  · rw [if_neg e]
    have : hashFrom (hashFrom 14695981039346656037 (bytesOf a)) (bytesOf c) ≠ hashFrom (hashFrom 14695981039346656037 (bytesOf b)) (bytesOf c) := fun h => e (from_inj _ (from_wd _ basis_wd) (from_wd _ basis_wd) h)
    simpa using this
end Go.Proofs.Ytkjmhijgjllnbaa.Pure
