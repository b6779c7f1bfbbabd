/- Words as whole numbers of 64 bits: what Get, Put and the document's own are. -/
import Derived.Test.YtdcmahndbmonbaaPrintK
namespace Go.Proofs.Ytdcmahndbmonbaa.Pure
open Go.RowKit Go.Proofs.Ytdcmahndbmonbaa.Print Go.Proofs.YtdcmahndbmonbaaW.PrintWords Go.Proofs.YtdcmahndbmonbaaW.PrintLast Go.Proofs.YtdcmahndbmonbaaW.PrintMore

theorem wrap_id {n : Int} (h0 : -9223372036854775808 ≤ n) (h1 : n < 9223372036854775808) : wrap64 n = n := by unfold wrap64; omega
theorem wrapu (n : Int) : IntKind.u64.wrap n = n % 18446744073709551616 := by simp [IntKind.wrap, IntKind.bits, IntKind.signed]
theorem wrapu_id {n : Int} (h0 : 0 ≤ n) (h1 : n < 18446744073709551616) : IntKind.u64.wrap n = n := by rw [wrapu]; omega
theorem wrapu_nat {n : Nat} (h1 : n < 2 ^ 64) : IntKind.u64.wrap (n : Int) = n := wrapu_id (by omega) (by omega)
theorem wfu64 {x : Int} (h : (Lit.int .u64 x).wf = true) : ∃ n : Nat, x = (n : Int) ∧ n < 2 ^ 64 := by
  have h1 : IntKind.u64.min ≤ x ∧ x ≤ IntKind.u64.max := by simpa [Lit.wf] using h
  have h2 : IntKind.u64.min = 0 := by decide
  have h3 : IntKind.u64.max = 18446744073709551615 := by decide
  exact ⟨x.toNat, by omega, by omega⟩
theorem rd_nat (l : List Int) (i : Nat) (h : i < l.length) : rd l (i : Int) = l[i] := by unfold rd; simp [h]

/-! ### bits -/
theorem bofInt (a : Nat) (h : a < 2 ^ 64) : (BitVec.ofInt IntKind.u64.bits (a : Int)).toNat = a := by
  show (BitVec.ofInt 64 (a : Int)).toNat = a
  rw [BitVec.ofInt_natCast, BitVec.toNat_ofNat, Nat.mod_eq_of_lt h]
theorem band {a b : Nat} (ha : a < 2 ^ 64) (hb : b < 2 ^ 64) : Go.bits .and .u64 (a : Int) (b : Int) = ((a &&& b : Nat) : Int) := by
  unfold Go.bits
  simp only [BitVec.toNat_and, bofInt a ha, bofInt b hb]
  exact wrapu_nat (Nat.and_lt_two_pow _ hb)
theorem bor {a b : Nat} (ha : a < 2 ^ 64) (hb : b < 2 ^ 64) : Go.bits .or .u64 (a : Int) (b : Int) = ((a ||| b : Nat) : Int) := by
  unfold Go.bits
  simp only [BitVec.toNat_or, bofInt a ha, bofInt b hb]
  exact wrapu_nat (Nat.or_lt_two_pow ha hb)
theorem bandnot {a b : Nat} (ha : a < 2 ^ 64) (hb : b < 2 ^ 64) : Go.bits .andNot .u64 (a : Int) (b : Int) = ((a &&& (2 ^ 64 - (b + 1)) : Nat) : Int) := by
  have hn : (~~~ (BitVec.ofInt IntKind.u64.bits (b : Int))).toNat = 2 ^ 64 - (b + 1) := by
    rw [BitVec.toNat_not, bofInt b hb]
    show 2 ^ 64 - 1 - b = _
    omega
  unfold Go.bits
  simp only [BitVec.toNat_and, bofInt a ha, hn]
  exact wrapu_nat (Nat.and_lt_two_pow _ (by omega))
theorem bits64 : IntKind.u64.bits = 64 := rfl
theorem shln (a y : Nat) (hy : y ≤ 64) : shl .u64 (a : Int) (y : Int) = (((a <<< y) % 2 ^ 64 : Nat) : Int) := by
  unfold shl
  rw [Int.toNat_natCast, bits64, Nat.min_eq_left hy, wrapu, Nat.shiftLeft_eq]
  simp
theorem shrn (a y : Nat) (hy : y ≤ 64) : shr .u64 (a : Int) (y : Int) = ((a >>> y : Nat) : Int) := by
  unfold shr
  rw [Int.toNat_natCast, bits64, Nat.min_eq_left hy, Nat.shiftRight_eq_div_pow]
  simp

/-! ### a field -/
def okF (a b : Int) : Prop := 0 ≤ a ∧ 1 ≤ b ∧ b ≤ 64 ∧ a + b ≤ 64
instance (a b : Int) : Decidable (okF a b) := by unfold okF; infer_instance
theorem ones_shr (b : Nat) (hb : b ≤ 64) : (18446744073709551615 : Nat) >>> (64 - b) = 2 ^ b - 1 := by
  apply Nat.eq_of_testBit_eq
  intro i
  rw [Nat.testBit_shiftRight, show (18446744073709551615 : Nat) = 2 ^ 64 - 1 from rfl, Nat.testBit_two_pow_sub_one, Nat.testBit_two_pow_sub_one]
  by_cases h : i < b
  · rw [decide_eq_true h, decide_eq_true (by omega)]
  · rw [decide_eq_false h, decide_eq_false (by omega)]
theorem mask_yes {a b : Nat} (h : okF a b) : words_mask.f (a : Int) (b : Int) = some ((2 ^ b - 1 : Nat) : Int) := by
  unfold okF at h
  unfold words_mask.f
  rw [if_neg (by omega), if_neg (by omega), if_neg (by omega), wrap_id (n := 64 - (b : Int)) (by omega) (by omega), if_neg (by omega), if_pos (by omega), show (64 : Int) - b = ((64 - b : Nat) : Int) by omega,
    show (18446744073709551615 : Int) = ((18446744073709551615 : Nat) : Int) from rfl, shrn _ _ (by omega), ones_shr b (by omega)]
theorem mask_pos {b : Nat} (h : 1 ≤ b) : ((2 ^ b - 1 : Nat) : Int) ≠ 0 := by
  have : 2 ^ 1 ≤ 2 ^ b := Nat.pow_le_pow_right (by decide) h
  omega
theorem mask_lt {b : Nat} (h : b ≤ 64) : 2 ^ b - 1 < 2 ^ 64 := by
  have : 2 ^ b ≤ 2 ^ 64 := Nat.pow_le_pow_right (by decide) h
  omega
def getN (w a b : Nat) : Nat := (w >>> a) % 2 ^ b
theorem getN_lt (w a b : Nat) : getN w a b < 2 ^ b := Nat.mod_lt _ (Nat.two_pow_pos b)
theorem shr_lt {w : Nat} (hw : w < 2 ^ 64) (a : Nat) : w >>> a < 2 ^ 64 := by
  rw [Nat.shiftRight_eq_div_pow]
  exact Nat.lt_of_le_of_lt (Nat.div_le_self _ _) hw
theorem Get_yes {w a b : Nat} (hw : w < 2 ^ 64) (h : okF a b) : words_Get.f (w : Int) (a : Int) (b : Int) = some (((getN w a b : Nat) : Int), 0) := by
  have h' := h
  unfold okF at h'
  unfold words_Get.f
  rw [mask_yes h]
  simp only [Option.bind_some]
  rw [if_neg (mask_pos (by omega)), if_pos (by omega), shrn _ _ (by omega), band (shr_lt hw a) (mask_lt (by omega)), Nat.and_two_pow_sub_one_eq_mod]
  rfl
def putN (w a b v : Nat) : Nat := (w &&& (2 ^ 64 - (((2 ^ b - 1) <<< a) % 2 ^ 64 + 1))) ||| ((v <<< a) % 2 ^ 64)
theorem putN_bit {w a b v i : Nat} (hw : w < 2 ^ 64) (hab : a + b ≤ 64) (hv : v < 2 ^ b) : (putN w a b v).testBit i = if a ≤ i ∧ i < a + b then v.testBit (i - a) else w.testBit i := by
  unfold putN
  rw [Nat.testBit_or, Nat.testBit_and, Nat.testBit_two_pow_sub_succ (Nat.mod_lt _ (by decide)), Nat.testBit_mod_two_pow, Nat.testBit_mod_two_pow, Nat.testBit_shiftLeft, Nat.testBit_shiftLeft, Nat.testBit_two_pow_sub_one]
  have hv2 : b ≤ i - a → v.testBit (i - a) = false := fun h => Nat.testBit_lt_two_pow (Nat.lt_of_lt_of_le hv (Nat.pow_le_pow_right (by decide) h))
  have hw2 : 64 ≤ i → w.testBit i = false := fun h => Nat.testBit_lt_two_pow (Nat.lt_of_lt_of_le hw (Nat.pow_le_pow_right (by decide) h))
  by_cases h : a ≤ i ∧ i < a + b
  · rw [if_pos h]
    have e1 : decide (i < 64) = true := decide_eq_true (by omega)
    have e2 : decide (i ≥ a) = true := decide_eq_true (by omega)
    have e3 : decide (i - a < b) = true := decide_eq_true (by omega)
    simp [e1, e2, e3]
  · rw [if_neg h]
    by_cases h1 : a ≤ i
    · have e3 : decide (i - a < b) = false := decide_eq_false (by omega)
      rw [hv2 (by omega), e3]
      by_cases h2 : i < 64
      · simp [h2]
      · simp [h2, hw2 (by omega)]
    · have e2 : decide (i ≥ a) = false := decide_eq_false (by omega)
      rw [e2]
      by_cases h2 : i < 64
      · simp [h2]
      · simp [h2, hw2 (by omega)]
theorem bitLenAux_le : ∀ (f v b : Nat), v < 2 ^ f → (Lib.bitLenAux f v ≤ b ↔ v < 2 ^ b) := by
  intro f
  induction f with
  | zero =>
    intro v b h
    have := Nat.two_pow_pos b
    simp only [Lib.bitLenAux]
    omega
  | succ f ih =>
    intro v b h
    have hp := Nat.two_pow_pos b
    simp only [Lib.bitLenAux]
    by_cases hv : v = 0
    · rw [if_pos hv]; omega
    · rw [if_neg hv]
      cases b with
      | zero => rw [Nat.pow_zero]; omega
      | succ b =>
        have := ih (v / 2) b (by rw [Nat.pow_succ] at h; omega)
        rw [Nat.pow_succ]
        omega
theorem bitLen_le {v : Nat} (hv : v < 2 ^ 64) (b : Nat) : Lib.bitLen v ≤ b ↔ v < 2 ^ b := bitLenAux_le 64 v b hv
theorem Put_yes {w a b v : Nat} (hw : w < 2 ^ 64) (hv : v < 2 ^ 64) (h : okF a b) : words_Put.f (w : Int) (a : Int) (b : Int) (v : Int) = if v < 2 ^ b then some (((putN w a b v : Nat) : Int), 0) else some (0, 2) := by
  have h' := h
  unfold okF at h'
  unfold words_Put.f
  rw [mask_yes h]
  simp only [Option.bind_some]
  rw [if_neg (mask_pos (by omega))]
  unfold bits_Len64.f
  rw [if_pos ⟨by omega, by omega⟩, Int.toNat_natCast]
  simp only [Option.bind_some]
  by_cases hlt : v < 2 ^ b
  · have := (bitLen_le hv b).2 hlt
    rw [if_neg (by omega), if_pos (by omega), if_pos hlt, shln _ _ (by omega), shln _ _ (by omega), bandnot hw (Nat.mod_lt _ (by decide)), bor (Nat.and_lt_two_pow _ (by omega)) (Nat.mod_lt _ (by decide))]
    rfl
  · have : ¬ Lib.bitLen v ≤ b := fun h => hlt ((bitLen_le hv b).1 h)
    rw [if_pos (by omega), if_neg hlt]
/-! ### the document's own -/
end Go.Proofs.Ytdcmahndbmonbaa.Pure
