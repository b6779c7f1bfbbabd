/- Words as whole numbers of 64 bits: what Get, Put and the document's own are. -/
import Derived.Test.YtkjmhijgjllnbaaPrintK
namespace Go.Proofs.Ytkjmhijgjllnbaa.Pure
open Go.RowKit Go.Proofs.Ytkjmhijgjllnbaa.Print Go.Proofs.YtkjmhijgjllnbaaW.PrintWords Go.Proofs.YtkjmhijgjllnbaaW.PrintLast Go.Proofs.YtkjmhijgjllnbaaW.PrintMore

theorem wrap_id {n : Int} (h0 : -9223372036854775808 ≤ n) (h1 : n < 9223372036854775808) : wrap64 n = n := by unfold wrap64; omega
theorem wrapu (n : Int) : IntKind.u64.wrap n = n % 18446744073709551616 := by simp [IntKind.wrap, IntKind.bits, IntKind.signed]
theorem wrapu_id {n : Int} (h0 : 0 ≤ n) (h1 : n < 18446744073709551616) : IntKind.u64.wrap n = n := by rw [wrapu]; omega
theorem wrapu_nat {n : Nat} (h1 : n < 2 ^ 64) : IntKind.u64.wrap (n : Int) = n := wrapu_id (by omega) (by omega)
theorem wf64 {x : Int} (h : (Lit.int .i64 x).wf = true) : -9223372036854775808 ≤ x ∧ x < 9223372036854775808 := by
  have h1 : IntKind.i64.min ≤ x ∧ x ≤ 9223372036854775807 := by simpa [Lit.wf] using h
  have h2 : IntKind.i64.min = -9223372036854775808 := by decide
  omega
theorem wfu64 {x : Int} (h : (Lit.int .u64 x).wf = true) : ∃ n : Nat, x = (n : Int) ∧ n < 2 ^ 64 := by
  have h1 : IntKind.u64.min ≤ x ∧ x ≤ IntKind.u64.max := by simpa [Lit.wf] using h
  have h2 : IntKind.u64.min = 0 := by decide
  have h3 : IntKind.u64.max = 18446744073709551615 := by decide
  exact ⟨x.toNat, by omega, by omega⟩
theorem rd_nat (l : List Int) (i : Nat) (h : i < l.length) : rd l (i : Int) = l[i] := by unfold rd; simp [h]

/-! ### bits -/
theorem bofInt (a : Nat) (h : a < 2 ^ 64) : (BitVec.ofInt IntKind.u64.bits (a : Int)).toNat = a := by
  show (BitVec.ofInt 64 (a : Int)).toNat = a
  rw [BitVec.ofInt_natCast, BitVec.toNat_ofNat, Nat.mod_eq_of_lt h]
theorem band {a b : Nat} (ha : a < 2 ^ 64) (hb : b < 2 ^ 64) : Go.bits .and .u64 (a : Int) (b : Int) = ((a &&& b : Nat) : Int) := by
  unfold Go.bits
  simp only [BitVec.toNat_and, bofInt a ha, bofInt b hb]
  exact wrapu_nat (Nat.and_lt_two_pow _ hb)
theorem bor {a b : Nat} (ha : a < 2 ^ 64) (hb : b < 2 ^ 64) : Go.bits .or .u64 (a : Int) (b : Int) = ((a ||| b : Nat) : Int) := by
  unfold Go.bits
  simp only [BitVec.toNat_or, bofInt a ha, bofInt b hb]
  exact wrapu_nat (Nat.or_lt_two_pow ha hb)
theorem bxor {a b : Nat} (ha : a < 2 ^ 64) (hb : b < 2 ^ 64) : Go.bits .xor .u64 (a : Int) (b : Int) = ((a ^^^ b : Nat) : Int) := by
  unfold Go.bits
  simp only [BitVec.toNat_xor, bofInt a ha, bofInt b hb]
  exact wrapu_nat (Nat.xor_lt_two_pow ha hb)
theorem bandnot {a b : Nat} (ha : a < 2 ^ 64) (hb : b < 2 ^ 64) : Go.bits .andNot .u64 (a : Int) (b : Int) = ((a &&& (2 ^ 64 - (b + 1)) : Nat) : Int) := by
  have hn : (~~~ (BitVec.ofInt IntKind.u64.bits (b : Int))).toNat = 2 ^ 64 - (b + 1) := by
    rw [BitVec.toNat_not, bofInt b hb]
    show 2 ^ 64 - 1 - b = _
    omega
  unfold Go.bits
  simp only [BitVec.toNat_and, bofInt a ha, hn]
  exact wrapu_nat (Nat.and_lt_two_pow _ (by omega))
theorem bits64 : IntKind.u64.bits = 64 := rfl
theorem shln (a y : Nat) (hy : y ≤ 64) : shl .u64 (a : Int) (y : Int) = (((a <<< y) % 2 ^ 64 : Nat) : Int) := by
  unfold shl
  rw [Int.toNat_natCast, bits64, Nat.min_eq_left hy, wrapu, Nat.shiftLeft_eq]
  simp
theorem shrn (a y : Nat) (hy : y ≤ 64) : shr .u64 (a : Int) (y : Int) = ((a >>> y : Nat) : Int) := by
  unfold shr
  rw [Int.toNat_natCast, bits64, Nat.min_eq_left hy, Nat.shiftRight_eq_div_pow]
  simp

/-! ### a field -/
def okF (a b : Int) : Prop := 0 ≤ a ∧ 1 ≤ b ∧ b ≤ 64 ∧ a + b ≤ 64
instance (a b : Int) : Decidable (okF a b) := by unfold okF; infer_instance
theorem mask_no {a b : Int} (h : ¬ okF a b) : words_mask.f a b = some 0 := by
  unfold words_mask.f
  by_cases h1 : a < 0
  · rw [if_pos h1]
  · rw [if_neg h1]
    by_cases h2 : b < 1
    · rw [if_pos h2]
    · rw [if_neg h2]
      by_cases h3 : b > 64
      · rw [if_pos h3]
      · rw [if_neg h3, wrap_id (by omega) (by omega), if_pos (by unfold okF at h; omega)]
theorem ones_shr (b : Nat) (hb : b ≤ 64) : (18446744073709551615 : Nat) >>> (64 - b) = 2 ^ b - 1 := by
  apply Nat.eq_of_testBit_eq
  intro i
  rw [Nat.testBit_shiftRight, show (18446744073709551615 : Nat) = 2 ^ 64 - 1 from rfl, Nat.testBit_two_pow_sub_one, Nat.testBit_two_pow_sub_one]
  by_cases h : i < b
  · rw [decide_eq_true h, decide_eq_true (by omega)]
  · rw [decide_eq_false h, decide_eq_false (by omega)]
theorem mask_yes {a b : Nat} (h : okF a b) : words_mask.f (a : Int) (b : Int) = some ((2 ^ b - 1 : Nat) : Int) := by
  unfold okF at h
  unfold words_mask.f
  rw [if_neg (by omega), if_neg (by omega), if_neg (by omega), wrap_id (n := 64 - (b : Int)) (by omega) (by omega), if_neg (by omega), if_pos (by omega), show (64 : Int) - b = ((64 - b : Nat) : Int) by omega,
    show (18446744073709551615 : Int) = ((18446744073709551615 : Nat) : Int) from rfl, shrn _ _ (by omega), ones_shr b (by omega)]
theorem mask_pos {b : Nat} (h : 1 ≤ b) : ((2 ^ b - 1 : Nat) : Int) ≠ 0 := by
  have : 2 ^ 1 ≤ 2 ^ b := Nat.pow_le_pow_right (by decide) h
  omega
theorem mask_lt {b : Nat} (h : b ≤ 64) : 2 ^ b - 1 < 2 ^ 64 := by
  have : 2 ^ b ≤ 2 ^ 64 := Nat.pow_le_pow_right (by decide) h
  omega
def getN (w a b : Nat) : Nat := (w >>> a) % 2 ^ b
theorem getN_bit (w a b i : Nat) : (getN w a b).testBit i = (decide (i < b) && w.testBit (a + i)) := by
  unfold getN
  rw [Nat.testBit_mod_two_pow, Nat.testBit_shiftRight]
theorem getN_lt (w a b : Nat) : getN w a b < 2 ^ b := Nat.mod_lt _ (Nat.two_pow_pos b)
theorem Get_no {w a b : Int} (h : ¬ okF a b) : words_Get.f w a b = some (0, 1) := by
  unfold words_Get.f
  rw [mask_no h]
  rfl
theorem shr_lt {w : Nat} (hw : w < 2 ^ 64) (a : Nat) : w >>> a < 2 ^ 64 := by
  rw [Nat.shiftRight_eq_div_pow]
  exact Nat.lt_of_le_of_lt (Nat.div_le_self _ _) hw
theorem Get_yes {w a b : Nat} (hw : w < 2 ^ 64) (h : okF a b) : words_Get.f (w : Int) (a : Int) (b : Int) = some (((getN w a b : Nat) : Int), 0) := by
  have h' := h
  unfold okF at h'
  unfold words_Get.f
  rw [mask_yes h]
  simp only [Option.bind_some]
  rw [if_neg (mask_pos (by omega)), if_pos (by omega), shrn _ _ (by omega), band (shr_lt hw a) (mask_lt (by omega)), Nat.and_two_pow_sub_one_eq_mod]
  rfl
def putN (w a b v : Nat) : Nat := (w &&& (2 ^ 64 - (((2 ^ b - 1) <<< a) % 2 ^ 64 + 1))) ||| ((v <<< a) % 2 ^ 64)
theorem putN_lt {w a b v : Nat} (_ : w < 2 ^ 64) : putN w a b v < 2 ^ 64 :=
  Nat.or_lt_two_pow (Nat.and_lt_two_pow _ (by omega)) (Nat.mod_lt _ (by decide))
theorem putN_bit {w a b v i : Nat} (hw : w < 2 ^ 64) (hab : a + b ≤ 64) (hv : v < 2 ^ b) : (putN w a b v).testBit i = if a ≤ i ∧ i < a + b then v.testBit (i - a) else w.testBit i := by
  unfold putN
  rw [Nat.testBit_or, Nat.testBit_and, Nat.testBit_two_pow_sub_succ (Nat.mod_lt _ (by decide)), Nat.testBit_mod_two_pow, Nat.testBit_mod_two_pow, Nat.testBit_shiftLeft, Nat.testBit_shiftLeft, Nat.testBit_two_pow_sub_one]
  have hv2 : b ≤ i - a → v.testBit (i - a) = false := fun h => Nat.testBit_lt_two_pow (Nat.lt_of_lt_of_le hv (Nat.pow_le_pow_right (by decide) h))
  have hw2 : 64 ≤ i → w.testBit i = false := fun h => Nat.testBit_lt_two_pow (Nat.lt_of_lt_of_le hw (Nat.pow_le_pow_right (by decide) h))
  by_cases h : a ≤ i ∧ i < a + b
  · rw [if_pos h]
    have e1 : decide (i < 64) = true := decide_eq_true (by omega)
    have e2 : decide (i ≥ a) = true := decide_eq_true (by omega)
    have e3 : decide (i - a < b) = true := decide_eq_true (by omega)
    simp [e1, e2, e3]
  · rw [if_neg h]
    by_cases h1 : a ≤ i
    · have e3 : decide (i - a < b) = false := decide_eq_false (by omega)
      rw [hv2 (by omega), e3]
      by_cases h2 : i < 64
      · simp [h2]
      · simp [h2, hw2 (by omega)]
    · have e2 : decide (i ≥ a) = false := decide_eq_false (by omega)
      rw [e2]
      by_cases h2 : i < 64
      · simp [h2]
      · simp [h2, hw2 (by omega)]
theorem bitLenAux_le : ∀ (f v b : Nat), v < 2 ^ f → (Lib.bitLenAux f v ≤ b ↔ v < 2 ^ b) := by
  intro f
  induction f with
  | zero =>
    intro v b h
    have := Nat.two_pow_pos b
    simp only [Lib.bitLenAux]
    omega
  | succ f ih =>
    intro v b h
    have hp := Nat.two_pow_pos b
    simp only [Lib.bitLenAux]
    by_cases hv : v = 0
    · rw [if_pos hv]; omega
    · rw [if_neg hv]
      cases b with
      | zero => rw [Nat.pow_zero]; omega
      | succ b =>
        have := ih (v / 2) b (by rw [Nat.pow_succ] at h; omega)
        rw [Nat.pow_succ]
        omega
theorem bitLen_le {v : Nat} (hv : v < 2 ^ 64) (b : Nat) : Lib.bitLen v ≤ b ↔ v < 2 ^ b := bitLenAux_le 64 v b hv
theorem Put_no {w a b v : Int} (h : ¬ okF a b) : words_Put.f w a b v = some (0, 1) := by
  unfold words_Put.f
  rw [mask_no h]
  rfl
theorem Put_yes {w a b v : Nat} (hw : w < 2 ^ 64) (hv : v < 2 ^ 64) (h : okF a b) : words_Put.f (w : Int) (a : Int) (b : Int) (v : Int) = if v < 2 ^ b then some (((putN w a b v : Nat) : Int), 0) else some (0, 2) := by
  have h' := h
  unfold okF at h'
  unfold words_Put.f
  rw [mask_yes h]
  simp only [Option.bind_some]
  rw [if_neg (mask_pos (by omega))]
  unfold bits_Len64.f
  rw [if_pos ⟨by omega, by omega⟩, Int.toNat_natCast]
  simp only [Option.bind_some]
  by_cases hlt : v < 2 ^ b
  · have := (bitLen_le hv b).2 hlt
    rw [if_neg (by omega), if_pos (by omega), if_pos hlt, shln _ _ (by omega), shln _ _ (by omega), bandnot hw (Nat.mod_lt _ (by decide)), bor (Nat.and_lt_two_pow _ (by omega)) (Nat.mod_lt _ (by decide))]
    rfl
  · have : ¬ Lib.bitLen v ≤ b := fun h => hlt ((bitLen_le hv b).1 h)
    rw [if_pos (by omega), if_neg hlt]
theorem words_eq {x y : Nat} (h : ∀ i, i < 64 → x.testBit i = y.testBit i) (hx : x < 2 ^ 64) (hy : y < 2 ^ 64) : x = y := by
  apply Nat.eq_of_testBit_eq
  intro i
  by_cases hi : i < 64
  · exact h i hi
  · rw [Nat.testBit_lt_two_pow (Nat.lt_of_lt_of_le hx (Nat.pow_le_pow_right (by decide) (by omega))), Nat.testBit_lt_two_pow (Nat.lt_of_lt_of_le hy (Nat.pow_le_pow_right (by decide) (by omega)))]
theorem get_put {w a b v : Nat} (hw : w < 2 ^ 64) (hab : a + b ≤ 64) (hv : v < 2 ^ b) : getN (putN w a b v) a b = v := by
  apply Nat.eq_of_testBit_eq
  intro i
  rw [getN_bit, putN_bit hw hab hv]
  by_cases h : i < b
  · rw [decide_eq_true h, if_pos (by omega), show a + i - a = i by omega]; rfl
  · have hz : v.testBit i = false := Nat.testBit_lt_two_pow (Nat.lt_of_lt_of_le hv (Nat.pow_le_pow_right (by decide) (by omega)))
    rw [decide_eq_false h, hz, Bool.false_and]
theorem put_get {w a b v : Nat} (hw : w < 2 ^ 64) (hab : a + b ≤ 64) (hv : v < 2 ^ b) : putN (putN w a b v) a b (getN w a b) = w := by
  refine words_eq (fun i hi => ?_) (putN_lt (putN_lt hw)) hw
  rw [putN_bit (putN_lt hw) hab (getN_lt w a b), putN_bit hw hab hv, getN_bit]
  by_cases h : a ≤ i ∧ i < a + b
  · rw [if_pos h, decide_eq_true (by omega), show a + (i - a) = i by omega]; rfl
  · rw [if_neg h, if_neg h]
theorem get_apart {w a b v c d : Nat} (hw : w < 2 ^ 64) (hab : a + b ≤ 64) (hv : v < 2 ^ b) (h : c + d ≤ a ∨ a + b ≤ c) : getN (putN w a b v) c d = getN w c d := by
  apply Nat.eq_of_testBit_eq
  intro i
  rw [getN_bit, getN_bit]
  by_cases hi : i < d
  · rw [putN_bit hw hab hv, if_neg (by omega)]
  · rw [decide_eq_false hi]; rfl

/-! ### the document's own -/
theorem Field_eq (a b : Int) : escritoireref01_Field.f a b = some (decide (okF a b)) := by
  unfold escritoireref01_Field.f
  by_cases h1 : a ≥ 0
  · rw [if_pos h1]
    by_cases h2 : a < 64
    · rw [if_pos h2]
      by_cases h3 : b ≥ 1
      · rw [if_pos h3]
        by_cases h4 : b ≤ 64
        · rw [if_pos h4, wrap_id (by omega) (by omega)]
          congr 1
          by_cases h5 : a + b ≤ 64
          · rw [decide_eq_true h5, decide_eq_true (show okF a b by unfold okF; omega)]
          · rw [decide_eq_false h5, decide_eq_false (by unfold okF; omega)]
        · rw [if_neg h4, decide_eq_false (by unfold okF; omega)]
      · rw [if_neg h3, decide_eq_false (by unfold okF; omega)]
    · rw [if_neg h2, decide_eq_false (by unfold okF; omega)]
  · rw [if_neg h1, decide_eq_false (by unfold okF; omega)]
theorem bit_ev (n : Nat) (hn : n ≤ 1000) : ∀ (d i w : Nat), i + d = n → w < 2 ^ 64 → Ev (fun k => escritoireref01_bit.l0 k (w : Int) (n : Int) (i : Int)) (((w >>> d) % 2 : Nat) : Int) := by
  intro d
  induction d with
  | zero =>
    intro i w hi hw
    refine Ev.step (fun k => ?_) (Ev.now _)
    simp only [escritoireref01_bit.l0]
    rw [if_neg (by omega), Nat.shiftRight_zero, Int.tmod_eq_emod_of_nonneg (by omega)]
    rfl
  | succ d ih =>
    intro i w hi hw
    have h2 : w / 2 < 2 ^ 64 := by omega
    have := ih (i + 1) (w / 2) (by omega) h2
    rw [show (w / 2) >>> d = w >>> (d + 1) by rw [Nat.shiftRight_eq_div_pow, Nat.shiftRight_eq_div_pow, Nat.div_div_eq_div_mul, Nat.pow_succ, Nat.mul_comm]] at this
    refine Ev.step (fun k => ?_) this
    simp only [escritoireref01_bit.l0]
    rw [if_pos (by omega), Int.tdiv_eq_ediv_of_nonneg (by omega), show ((w : Int) / 2) = ((w / 2 : Nat) : Int) by omega, wrapu_nat h2, wrap_id (by omega) (by omega)]
    rfl
theorem bitv_ev {w n : Nat} (hw : w < 2 ^ 64) (hn : n ≤ 1000) : Ev (fun k => escritoireref01_bit.f k (w : Int) (n : Int)) (((w >>> n) % 2 : Nat) : Int) := bit_ev n hn n 0 w (by omega) hw
theorem half (x n : Nat) : x % 2 ^ (n + 1) = 2 * ((x / 2) % 2 ^ n) + x % 2 := by
  rw [Nat.pow_succ, Nat.mul_comm, Nat.mod_mul]
  omega
theorem shr_half (w i : Nat) : (w >>> i) / 2 = w >>> (i + 1) := by
  rw [Nat.shiftRight_eq_div_pow, Nat.shiftRight_eq_div_pow, Nat.div_div_eq_div_mul, Nat.pow_succ]
theorem refget_l_ev {w a b : Nat} (hw : w < 2 ^ 64) (hab : a + b ≤ 64) : ∀ (i : Nat) (v : Nat), i ≤ b → v = (w >>> (a + i)) % 2 ^ (b - i) → Ev (fun k => escritoireref01_Get.l0 k (w : Int) (a : Int) (v : Int) ((i : Int) - 1)) (((getN w a b : Nat) : Int), (0 : Int)) := by
  intro i
  induction i with
  | zero =>
    intro v hi hv
    rw [Nat.add_zero, Nat.sub_zero] at hv
    refine Ev.step (fun k => ?_) (Ev.now _)
    simp only [escritoireref01_Get.l0]
    rw [if_neg (by omega), hv]
    rfl
  | succ i ih =>
    intro v hi hv
    have hb := bitv_ev (w := w) (n := a + i) hw (by omega)
    have h0 : ∀ k, escritoireref01_Get.l0 (k + 1) (w : Int) (a : Int) (v : Int) (((i + 1 : Nat) : Int) - 1) = (escritoireref01_bit.f k (w : Int) ((a + i : Nat) : Int)).bind fun t120 => (escritoireref01_Get.l0 k (w : Int) (a : Int) (IntKind.u64.wrap ((IntKind.u64.wrap (2 * (v : Int))) + t120)) (wrap64 ((((i + 1 : Nat) : Int) - 1) - 1))) := by
      intro k
      simp only [escritoireref01_Get.l0]
      rw [if_pos (by omega), wrap_id (n := (a : Int) + (((i + 1 : Nat) : Int) - 1)) (by omega) (by omega), show (a : Int) + (((i + 1 : Nat) : Int) - 1) = ((a + i : Nat) : Int) by omega]
    have hv2 : v < 2 ^ (b - (i + 1)) := by rw [hv]; exact Nat.mod_lt _ (Nat.two_pow_pos _)
    have hp : 2 ^ (b - (i + 1)) ≤ 2 ^ 63 := Nat.pow_le_pow_right (by decide) (by omega)
    have hstep := ih (2 * v + (w >>> (a + i)) % 2) (by omega) (by
      rw [show b - i = (b - (i + 1)) + 1 by omega, half, shr_half, hv, show a + i + 1 = a + (i + 1) by omega])
    refine Ev.step h0 (Ev.bind hb (Ev.congr (fun k => ?_) hstep))
    rw [show (2 : Int) * (v : Int) = ((2 * v : Nat) : Int) by omega, wrapu_nat (by omega), ← Int.natCast_add, wrapu_nat (by omega), wrap_id (by omega) (by omega)]
    congr 1
    omega
theorem refGet_ev {w a b : Nat} (hw : w < 2 ^ 64) (h : okF a b) : Ev (fun k => escritoireref01_Get.f k (w : Int) (a : Int) (b : Int)) (((getN w a b : Nat) : Int), (0 : Int)) := by
  have h' := h
  unfold okF at h'
  have := refget_l_ev (w := w) (a := a) (b := b) hw (by omega) b 0 (Nat.le_refl _) (by rw [Nat.sub_self, Nat.pow_zero, Nat.mod_one])
  refine Ev.congr (fun k => ?_) this
  unfold escritoireref01_Get.f
  rw [Field_eq, decide_eq_true h]
  simp only [Option.bind_some, if_true]
  rw [wrap_id (by omega) (by omega)]
  rfl
theorem refGet_no {w a b : Int} (h : ¬ okF a b) : Ev (fun k => escritoireref01_Get.f k w a b) (0, 1) := by
  refine Ev.congr (fun k => ?_) (Ev.now _)
  unfold escritoireref01_Get.f
  rw [Field_eq, decide_eq_false h]
  simp
theorem testBit_nat (x i : Nat) : (x >>> i) % 2 = if x.testBit i then 1 else 0 := by
  rw [Nat.testBit_eq_decide_div_mod_eq, Nat.shiftRight_eq_div_pow]
  have := Nat.mod_two_eq_zero_or_one (x / 2 ^ i)
  by_cases h : x / 2 ^ i % 2 = 1
  · simp [h]
  · simp [h]; omega
theorem shr_step (x i : Nat) : x >>> i = 2 * (x >>> (i + 1)) + (x >>> i) % 2 := by
  have := shr_half x i
  omega
theorem refput_l1_ev {w a b v : Nat} (hw : w < 2 ^ 64) (hv : v < 2 ^ b) (hab : a + b ≤ 64) : ∀ (i : Nat) (o : Nat), i ≤ 64 → o = (putN w a b v) >>> i → Ev (fun k => escritoireref01_Put.l1 k (w : Int) (a : Int) (b : Int) (v : Int) (o : Int) ((i : Int) - 1)) (((putN w a b v : Nat) : Int), (0 : Int)) := by
  intro i
  induction i with
  | zero =>
    intro o hi ho
    refine Ev.step (fun k => ?_) (Ev.now _)
    simp only [escritoireref01_Put.l1]
    rw [if_neg (by omega), ho, Nat.shiftRight_zero]
  | succ i ih =>
    intro o hi ho
    have hlt := putN_lt (a := a) (b := b) (v := v) hw
    have hv64 : v < 2 ^ 64 := Nat.lt_of_lt_of_le hv (Nat.pow_le_pow_right (by decide) (by omega))
    have hb := bitv_ev (w := w) (n := i) hw (by omega)
    have ho2 : 2 * o + (putN w a b v >>> i) % 2 = putN w a b v >>> i := by rw [ho]; exact (shr_step _ _).symm
    have ho3 : putN w a b v >>> i < 2 ^ 64 := shr_lt hlt i
    have hstep := ih (2 * o + (putN w a b v >>> i) % 2) (by omega) ho2
    have e1 : wrap64 ((((i + 1 : Nat) : Int) - 1) - 1) = (i : Int) - 1 := by rw [wrap_id (by omega) (by omega)]; omega
    have e2 : ((i + 1 : Nat) : Int) - 1 = (i : Int) := by omega
    have e3 : IntKind.u64.wrap (2 * (o : Int)) = ((2 * o : Nat) : Int) := by rw [show (2 : Int) * (o : Int) = ((2 * o : Nat) : Int) by omega, wrapu_nat (by omega)]
    have e4 : ∀ t : Nat, t = (putN w a b v >>> i) % 2 → IntKind.u64.wrap ((IntKind.u64.wrap (2 * (o : Int))) + (t : Int)) = ((2 * o + (putN w a b v >>> i) % 2 : Nat) : Int) := by
      intro t ht
      rw [e3, ht, ← Int.natCast_add, wrapu_nat (by omega)]
    have hbit := testBit_nat (putN w a b v) i
    rw [putN_bit hw hab hv] at hbit
    by_cases hin : a ≤ i ∧ i < a + b
    · rw [if_pos hin] at hbit
      have hb2 := bitv_ev (w := v) (n := i - a) hv64 (by omega)
      rw [testBit_nat v (i - a), ← hbit] at hb2
      have h0 : ∀ k, escritoireref01_Put.l1 (k + 1) (w : Int) (a : Int) (b : Int) (v : Int) (o : Int) (((i + 1 : Nat) : Int) - 1) = (escritoireref01_bit.f k (w : Int) (i : Int)).bind fun _ => (escritoireref01_bit.f k (v : Int) ((i - a : Nat) : Int)).bind fun t124 => (escritoireref01_Put.l1 k (w : Int) (a : Int) (b : Int) (v : Int) (IntKind.u64.wrap ((IntKind.u64.wrap (2 * (o : Int))) + t124)) ((i : Int) - 1)) := by
        intro k
        simp only [escritoireref01_Put.l1]
        rw [e1, e2, if_pos (by omega)]
        congr 1
        funext t
        rw [if_pos (by omega), wrap_id (n := (a : Int) + b) (by omega) (by omega), if_pos (by omega), wrap_id (n := (i : Int) - a) (by omega) (by omega), show (i : Int) - a = ((i - a : Nat) : Int) by omega]
      refine Ev.step h0 (Ev.bind hb (Ev.bind hb2 (Ev.congr (fun k => ?_) hstep)))
      rw [e4 _ rfl]
    · rw [if_neg hin, ← testBit_nat] at hbit
      rw [← hbit] at hb
      have h0 : ∀ k, escritoireref01_Put.l1 (k + 1) (w : Int) (a : Int) (b : Int) (v : Int) (o : Int) (((i + 1 : Nat) : Int) - 1) = (escritoireref01_bit.f k (w : Int) (i : Int)).bind fun t123 => (escritoireref01_Put.l1 k (w : Int) (a : Int) (b : Int) (v : Int) (IntKind.u64.wrap ((IntKind.u64.wrap (2 * (o : Int))) + t123)) ((i : Int) - 1)) := by
        intro k
        simp only [escritoireref01_Put.l1]
        rw [e1, e2, if_pos (by omega)]
        congr 1
        funext t
        by_cases h1 : (i : Int) ≥ a
        · rw [if_pos h1, wrap_id (n := (a : Int) + b) (by omega) (by omega), if_neg (by omega)]
        · rw [if_neg h1]
      refine Ev.step h0 (Ev.bind hb (Ev.congr (fun k => ?_) hstep))
      rw [e4 _ rfl]
theorem refput_l0_ev {w a b v : Nat} (hw : w < 2 ^ 64) (hv : v < 2 ^ 64) (hab : a + b ≤ 64) : ∀ (d i : Nat), i + d = 64 → b ≤ i → v < 2 ^ 64 → (∀ j, b ≤ j → j < i → v.testBit j = false) →
    Ev (fun k => escritoireref01_Put.l0 k (w : Int) (a : Int) (b : Int) (v : Int) (i : Int)) (if v < 2 ^ b then (((putN w a b v : Nat) : Int), (0 : Int)) else (0, 2)) := by
  intro d
  induction d with
  | zero =>
    intro i hi hb _ hz
    have hlt : v < 2 ^ b := by
      apply Nat.lt_pow_two_of_testBit
      intro j hj
      by_cases hj2 : j < 64
      · exact hz j hj (by omega)
      · exact Nat.testBit_lt_two_pow (Nat.lt_of_lt_of_le hv (Nat.pow_le_pow_right (by decide) (by omega)))
    rw [if_pos hlt]
    have := refput_l1_ev hw hlt hab 64 0 (Nat.le_refl _) (by rw [Nat.shiftRight_eq_div_pow, Nat.div_eq_of_lt (putN_lt hw)])
    refine Ev.step (fun k => ?_) this
    simp only [escritoireref01_Put.l0]
    rw [if_neg (by omega)]
    rfl
  | succ d ih =>
    intro i hi hb hv0 hz
    have hbt := bitv_ev (w := v) (n := i) hv (by omega)
    rw [testBit_nat] at hbt
    have h0 : ∀ k, escritoireref01_Put.l0 (k + 1) (w : Int) (a : Int) (b : Int) (v : Int) (i : Int) = (escritoireref01_bit.f k (v : Int) (i : Int)).bind fun t122 => (if t122 = 0 then (escritoireref01_Put.l0 k (w : Int) (a : Int) (b : Int) (v : Int) ((i + 1 : Nat) : Int)) else (some (0, 2))) := by
      intro k
      simp only [escritoireref01_Put.l0]
      rw [if_pos (by omega), wrap_id (by omega) (by omega)]
      rfl
    cases ht : v.testBit i with
    | false =>
      rw [ht] at hbt
      refine Ev.step h0 (Ev.bind hbt (Ev.congr (fun k => if_pos (by simp)) (ih (i + 1) (by omega) (by omega) hv0 (fun j h1 h2 => ?_))))
      by_cases hj : j = i
      · rw [hj]; exact ht
      · exact hz j h1 (by omega)
    | true =>
      rw [ht] at hbt
      have hge : ¬ v < 2 ^ b := fun h => by
        rw [Nat.testBit_lt_two_pow (Nat.lt_of_lt_of_le h (Nat.pow_le_pow_right (by decide) hb))] at ht
        simp at ht
      rw [if_neg hge]
      exact Ev.step h0 (Ev.bind hbt (Ev.congr (fun k => if_neg (by simp)) (Ev.now _)))
theorem refPut_ev {w a b v : Nat} (hw : w < 2 ^ 64) (hv : v < 2 ^ 64) (h : okF a b) : Ev (fun k => escritoireref01_Put.f k (w : Int) (a : Int) (b : Int) (v : Int)) (if v < 2 ^ b then (((putN w a b v : Nat) : Int), (0 : Int)) else (0, 2)) := by
  have h' := h
  unfold okF at h'
  have := refput_l0_ev (w := w) (a := a) (b := b) (v := v) hw hv (by omega) (64 - b) b (by omega) (Nat.le_refl _) hv (fun j h1 h2 => by omega)
  refine Ev.congr (fun k => ?_) this
  unfold escritoireref01_Put.f
  rw [Field_eq, decide_eq_true h]
  rfl
theorem refPut_no {w a b v : Int} (h : ¬ okF a b) : Ev (fun k => escritoireref01_Put.f k w a b v) (0, 1) := by
  refine Ev.congr (fun k => ?_) (Ev.now _)
  unfold escritoireref01_Put.f
  rw [Field_eq, decide_eq_false h]
  simp
theorem lives_eq : escritoirelaw01_lives.f = some true := by kernel_rfl
theorem bytesOf_append (a c : ByteArray) : bytesOf (a ++ c) = bytesOf a ++ bytesOf c := by
  unfold bytesOf
  rw [ByteArray.data_append, Array.toList_append, List.map_append]
end Go.Proofs.Ytkjmhijgjllnbaa.Pure
