/- Floats to the bit: what a number's rung is worth, what is exact, the order by keys. -/
import Derived.Test.YtngncegokmppiaaFloC
namespace Go.Proofs.Ytngncegokmppiaa.Flo
open Go
set_option linter.unusedVariables false
set_option linter.unusedSimpArgs false
theorem cB : D.binade = 4503599627370496 := by decide
theorem cI : D.infRung = 9218868437227405312 := by decide
theorem cS : D.signWeight = 9223372036854775808 := by decide
theorem cL : D.leastPlace = -1074 := by decide
theorem cF : D.fractionBits = 52 := by decide
/-- The digits and the place (above the least one) of a rung. -/
def mg (r : Nat) : Nat := if r < 4503599627370496 then r else 4503599627370496 + r % 4503599627370496
def pl (r : Nat) : Nat := if r < 4503599627370496 then 0 else r / 4503599627370496 - 1
def ng (x : Nat) : Bool := x / 9223372036854775808 % 2 == 1
def rg (x : Nat) : Nat := x % 9223372036854775808
theorem read_eq (x : Nat) : D.read x = if rg x < 9218868437227405312 then .number (ng x) (mg (rg x)) (-1074 + (pl (rg x) : Int)) else if rg x = 9218868437227405312 then .infinity (ng x) else .nan (ng x) (rg x - 9218868437227405312) := by
  unfold Ieee.Format.read
  rw [cB, cI, cS, cL]
  show (if rg x < 4503599627370496 then _ else _) = _
  unfold mg pl
  by_cases h : rg x < 4503599627370496
  · rw [if_pos h, if_pos (by omega), if_pos h, if_pos h]
    rfl
  · rw [if_neg h, if_neg h, if_neg h]
    rfl
theorem mg_log {r : Nat} (h0 : 0 < r) (h : r < 9218868437227405312) : (4503599627370496 ≤ r → (mg r).log2 = 52) ∧ (r < 4503599627370496 → (mg r).log2 < 52) ∧ 0 < mg r ∧ mg r < 9007199254740992 := by
  unfold mg
  refine ⟨fun h1 => ?_, fun h1 => ?_, ?_, ?_⟩
  · rw [if_neg (by omega)]
    rw [Nat.log2_eq_iff (by omega)]
    omega
  · rw [if_pos h1]
    rw [Nat.log2_lt (by omega)]
    omega
  · split <;> omega
  · split <;> omega
theorem mg_back {r : Nat} : pl r * 4503599627370496 + mg r = r := by
  unfold mg pl
  split
  · omega
  · omega
theorem log_shift (m k : Nat) (h : 0 < m) : (m <<< k).log2 = m.log2 + k := by
  rw [Nat.shiftLeft_eq, Nat.log2_eq_iff (by have := Nat.mul_pos h (Nat.two_pow_pos k); omega)]
  have h1 := Nat.log2_self_le (n := m) (by omega)
  have h2 := Nat.lt_log2_self (n := m)
  constructor
  · rw [Nat.pow_add]; exact Nat.mul_le_mul_right _ h1
  · rw [show m.log2 + k + 1 = (m.log2 + 1) + k by omega, Nat.pow_add]
    exact Nat.mul_lt_mul_of_pos_right h2 (Nat.two_pow_pos k)
theorem cut_exact (neg : Bool) (m k : Nat) (h : 0 < m) : Ieee.Toward.even.cut neg (m <<< k) k = m := by
  unfold Ieee.Toward.cut
  rw [log_shift m k h, Nat.min_eq_left (by omega)]
  rw [Nat.shiftLeft_eq, Nat.shiftLeft_eq, Nat.one_mul]
  dsimp only
  rw [Nat.mul_div_cancel _ (Nat.two_pow_pos k), Nat.mul_mod_left]
  have := Nat.two_pow_pos k
  simp
/-- What stands for a rung is written as that rung. -/
theorem nearest_exact (neg : Bool) (r k : Nat) (h0 : 0 < r) (h : r < 9218868437227405312) : D.nearest neg (mg r <<< k) (-1074 + (pl r : Int) - k) = D.word neg r := by
  obtain ⟨l1, l2, l3, l4⟩ := mg_log h0 h
  have hp : 0 < mg r <<< k := by rw [Nat.shiftLeft_eq]; exact Nat.mul_pos l3 (Nat.two_pow_pos k)
  unfold Ieee.Format.nearest
  rw [if_neg (by omega), log_shift _ _ l3, cF, cL]
  have hl : max (-1074 + (pl r : Int) - (k : Int) + (((mg r).log2 + k : Nat) : Int) - ((52 : Nat) : Int)) (-1074) = -1074 + (pl r : Int) := by
    by_cases hb : r < 4503599627370496
    · have e : pl r = 0 := by unfold pl; rw [if_pos hb]
      have := l2 hb
      omega
    · have := l1 (by omega)
      omega
  simp only [hl]
  rw [show (-1074 + (pl r : Int) - (k : Int) - (-1074 + (pl r : Int))).toNat = 0 by omega, show (-1074 + (pl r : Int) - (-1074 + (pl r : Int) - (k : Int))).toNat = k by omega, Nat.shiftLeft_zero, cut_exact _ _ _ l3, show (-1074 + (pl r : Int) - -1074).toNat = pl r by omega, cB, cI, mg_back, Nat.min_eq_left (by omega)]
theorem word_back (x : Nat) (hx : x < 18446744073709551616) : D.word (ng x) (rg x) = x := by
  unfold Ieee.Format.word ng rg
  rw [cS]
  by_cases h : x / 9223372036854775808 % 2 = 1
  · rw [if_pos (by simpa using h)]; omega
  · rw [if_neg (by simpa using h)]; omega
/-- A number's parts. -/
theorem read_num {x : Nat} (h : rg x < 9218868437227405312) : D.read x = .number (ng x) (mg (rg x)) (-1074 + (pl (rg x) : Int)) := by rw [read_eq, if_pos h]
theorem signed_abs (s : Bool) (m k : Nat) : (Ieee.signed s m k).natAbs = m <<< k := by
  unfold Ieee.signed
  cases s
  · rw [if_neg (by decide), Int.natAbs_natCast]
  · rw [if_pos rfl, Int.natAbs_neg, Int.natAbs_natCast]
theorem signed_neg (s : Bool) (m k : Nat) (h : 0 < m) : decide (Ieee.signed s m k < 0) = s := by
  have := Nat.mul_pos h (Nat.two_pow_pos k)
  rw [← Nat.shiftLeft_eq] at this
  unfold Ieee.signed
  cases s
  · rw [if_neg (by decide)]; exact decide_eq_false (by omega)
  · rw [if_pos rfl]; exact decide_eq_true (by omega)
theorem add_zero_left (x : Nat) (hx : x < 18446744073709551616) (h0 : 0 < rg x) (h : rg x < 9218868437227405312) : D.add 0 x = some x := by
  unfold Ieee.Format.add
  rw [read_num h, show D.read 0 = .number false 0 (-1074) from by decide]
  obtain ⟨l1, l2, l3, l4⟩ := mg_log h0 h
  simp only [Ieee.Datum.sum]
  rw [show min (-1074 : Int) (-1074 + (pl (rg x) : Int)) = -1074 by omega, show ((-1074 : Int) - -1074).toNat = 0 from rfl, show (-1074 + (pl (rg x) : Int) - -1074).toNat = pl (rg x) by omega, show Ieee.signed false 0 0 = 0 from rfl, Int.zero_add]
  have hz : Ieee.signed (ng x) (mg (rg x)) (pl (rg x)) ≠ 0 := by
    intro hz
    have h1 := signed_abs (ng x) (mg (rg x)) (pl (rg x))
    rw [hz] at h1
    have := Nat.mul_pos l3 (Nat.two_pow_pos (pl (rg x)))
    rw [← Nat.shiftLeft_eq] at this
    simp at h1
    omega
  rw [if_neg hz, signed_abs, signed_neg _ _ _ l3, Option.map_some]
  have h2 := nearest_exact (ng x) (rg x) (pl (rg x)) h0 h
  rw [show -1074 + (pl (rg x) : Int) - (pl (rg x) : Int) = -1074 by omega] at h2
  show some (D.nearest _ _ _) = _
  rw [h2, word_back x hx]
theorem add_zero_inf (x : Nat) (hx : x < 18446744073709551616) (h : rg x = 9218868437227405312) : D.add 0 x = some x := by
  unfold Ieee.Format.add
  rw [read_eq, read_eq, if_pos (by decide), if_neg (by omega), if_pos h]
  simp only [Ieee.Datum.sum, Option.map_some]
  have := word_back x hx
  rw [h] at this
  exact congrArg some this
theorem read_one : D.read 4607182418800017408 = .number false 4503599627370496 (-52) := by decide
theorem div_one_inf (x : Nat) (hx : x < 18446744073709551616) (h : rg x = 9218868437227405312) : D.div x 4607182418800017408 = some x := by
  unfold Ieee.Format.div
  rw [read_one, read_eq, if_neg (by omega), if_pos h]
  simp only [Ieee.Datum.quotient, Option.map_some, Bool.xor_false]
  have := word_back x hx
  rw [h] at this
  exact congrArg some this
theorem div_one (x : Nat) (hx : x < 18446744073709551616) (h0 : 0 < rg x) (h : rg x < 9218868437227405312) : D.div x 4607182418800017408 = some x := by
  unfold Ieee.Format.div
  rw [read_one, read_num h, cF]
  obtain ⟨l1, l2, l3, l4⟩ := mg_log h0 h
  have hl : (mg (rg x)).log2 ≤ 52 := by
    by_cases hb : rg x < 4503599627370496
    · have := l2 hb; omega
    · have := l1 (by omega); omega
  simp only [Ieee.Datum.quotient]
  rw [if_neg (by omega), show (4503599627370496 : Nat).log2 = 52 from by decide]
  obtain ⟨k, hk⟩ : ∃ k, 52 + 2 + 52 - (mg (rg x)).log2 = k + 52 := ⟨54 - (mg (rg x)).log2, by omega⟩
  rw [hk, Bool.xor_false]
  have e1 : mg (rg x) <<< (k + 52) = (mg (rg x) <<< k) * 4503599627370496 := by
    rw [Nat.shiftLeft_eq, Nat.shiftLeft_eq, Nat.pow_add, Nat.mul_assoc]
  have e2 : 2 * (mg (rg x) <<< (k + 52) / 4503599627370496) + (mg (rg x) <<< (k + 52) % 4503599627370496 != 0).toNat = mg (rg x) <<< (k + 1) := by
    rw [e1, Nat.mul_div_cancel _ (by omega), Nat.mul_mod_left, Nat.shiftLeft_eq, Nat.shiftLeft_eq, Nat.pow_succ]
    simp
    rw [Nat.mul_comm 2, Nat.mul_assoc]
  rw [e2, Option.map_some, show -1074 + (pl (rg x) : Int) - -52 - ((k + 52 : Nat) : Int) - 1 = -1074 + (pl (rg x) : Int) - ((k + 1 : Nat) : Int) by omega]
  show some (D.nearest _ _ _) = _
  rw [nearest_exact _ _ _ h0 h, word_back x hx]
theorem sub_self (x : Nat) (h : rg x < 9218868437227405312) : D.sub x x = some 0 := by
  unfold Ieee.Format.sub
  rw [read_num h]
  simp only [Ieee.Datum.opposite, Ieee.Datum.sum]
  have e : Ieee.signed (ng x) (mg (rg x)) (-1074 + (pl (rg x) : Int) - min (-1074 + (pl (rg x) : Int)) (-1074 + (pl (rg x) : Int))).toNat + Ieee.signed (!ng x) (mg (rg x)) (-1074 + (pl (rg x) : Int) - min (-1074 + (pl (rg x) : Int)) (-1074 + (pl (rg x) : Int))).toNat = 0 := by
    unfold Ieee.signed
    cases ng x <;> simp <;> omega
  rw [e, if_pos rfl, Option.map_some, Bool.and_not_self]
  show some (D.nearest _ _ _) = _
  rfl
theorem zero_of_rg {x : Nat} (h : rg x = 0) : D.read x = .number (ng x) 0 (-1074) := by
  rw [read_num (by omega), h]
  rfl
/-- The sum of one number that is nought, and its mean. -/
theorem add_zero_zero {x : Nat} (h : rg x = 0) : D.add 0 x = some 0 := by
  unfold Ieee.Format.add
  rw [zero_of_rg h]
  cases ng x <;> decide
theorem div_zero_one : D.div 0 4607182418800017408 = some 0 := by decide
theorem icmp (a b : Int) : compare a b = if a < b then Ordering.lt else if a = b then Ordering.eq else Ordering.gt := rfl
/-- The value of a rung (in units of the least place). -/
def vl (r : Nat) : Nat := mg r <<< pl r
theorem vl_mono {r q : Nat} (h : r < q) (hq : q < 9218868437227405312) : vl r < vl q := by
  unfold vl
  rw [Nat.shiftLeft_eq, Nat.shiftLeft_eq]
  obtain ⟨a1, a2, a3, a4⟩ := mg_log (r := q) (by omega) hq
  have b1 := mg_back (r := r)
  have b2 := mg_back (r := q)
  have hmr : mg r < 9007199254740992 := by unfold mg; split <;> omega
  have hq1 : pl q ≠ 0 → 4503599627370496 ≤ mg q := by intro h0; unfold pl at h0; unfold mg; split <;> simp_all
  rcases Nat.lt_trichotomy (pl r) (pl q) with hp | hp | hp
  · obtain ⟨d, hd⟩ : ∃ d, pl q = pl r + 1 + d := ⟨pl q - pl r - 1, by omega⟩
    have h1 := hq1 (by omega)
    rw [hd, Nat.pow_add, Nat.pow_succ]
    have p1 := Nat.two_pow_pos (pl r)
    have p2 := Nat.two_pow_pos d
    generalize 2 ^ pl r = t at p1 ⊢
    generalize 2 ^ d = u at p2 ⊢
    have c1 : mg r * t < 9007199254740992 * t := Nat.mul_lt_mul_of_pos_right hmr p1
    have c2 : 4503599627370496 * (t * 2) ≤ mg q * (t * 2) := Nat.mul_le_mul_right _ h1
    have c3 : mg q * (t * 2) * 1 ≤ mg q * (t * 2) * u := Nat.mul_le_mul_left _ p2
    rw [← Nat.mul_assoc (mg q)]
    omega
  · rw [hp]
    rw [hp] at b1
    exact Nat.mul_lt_mul_of_pos_right (by omega) (Nat.two_pow_pos _)
  · exfalso
    have h1 : pl r ≤ pl q := by unfold pl; split <;> split <;> omega
    omega
def sg (s : Bool) (v : Nat) : Int := if s then -(v : Int) else v
theorem signed_shift (s : Bool) (m u b : Nat) (h : b ≤ u) : Ieee.signed s m (u - b) * ((2 ^ b : Nat) : Int) = sg s (m <<< u) := by
  have e : (m <<< (u - b)) * 2 ^ b = m <<< u := by
    rw [Nat.shiftLeft_eq, Nat.shiftLeft_eq, Nat.mul_assoc, ← Nat.pow_add, Nat.sub_add_cancel h]
  unfold Ieee.signed sg
  cases s
  · rw [if_neg (by decide), if_neg (by decide), ← Int.natCast_mul, e]
  · rw [if_pos rfl, if_pos rfl, Int.neg_mul, ← Int.natCast_mul, e]
theorem compare_mul (a b : Int) (c : Nat) (h : 0 < c) : compare a b = compare (a * (c : Int)) (b * (c : Int)) := by
  have hc : (0 : Int) < c := by omega
  rw [icmp, icmp]
  by_cases h1 : a < b
  · rw [if_pos h1, if_pos (Int.mul_lt_mul_of_pos_right h1 hc)]
  · rw [if_neg h1]
    by_cases h2 : a = b
    · rw [if_pos h2, h2, if_neg (by omega), if_pos rfl]
    · have h3 := Int.mul_lt_mul_of_pos_right (show b < a by omega) hc
      rw [if_neg h2, if_neg (by omega), if_neg (by omega)]
theorem compare_sg (s t : Bool) {v u r q : Nat} (h1 : v < u ↔ r < q) (h2 : u < v ↔ q < r) (h3 : v = 0 ↔ r = 0) (h4 : u = 0 ↔ q = 0) : compare (sg s v) (sg t u) = compare (sg s r) (sg t q) := by
  rw [icmp, icmp]
  have e1 : (sg s v < sg t u) ↔ (sg s r < sg t q) := by unfold sg; cases s <;> cases t <;> simp <;> omega
  have e2 : (sg s v = sg t u) ↔ (sg s r = sg t q) := by unfold sg; cases s <;> cases t <;> simp <;> omega
  simp only [e1, e2]
def kk (x : Nat) : Int := sg (ng x) (rg x)
theorem isN_rg (x : Nat) : isN x = decide (9218868437227405312 < rg x) := by
  unfold isN
  rw [read_eq]
  split
  · rename_i h; rw [decide_eq_false (by omega)]; rfl
  · split
    · rename_i h; rw [decide_eq_false (by omega)]; rfl
    · rw [decide_eq_true (by omega)]; rfl
theorem vl_zero (r : Nat) : vl r = 0 ↔ r = 0 := by
  unfold vl
  rw [Nat.shiftLeft_eq]
  constructor
  · intro h
    rcases Nat.mul_eq_zero.1 h with h | h
    · unfold mg at h; split at h <;> omega
    · have := Nat.two_pow_pos (pl r); omega
  · rintro rfl; rfl
theorem order_eq {x y : Nat} (hx : isN x = false) (hy : isN y = false) : D.order x y = some (compare (kk x) (kk y)) := by
  rw [isN_rg] at hx hy
  have hx := of_decide_eq_false hx
  have hy := of_decide_eq_false hy
  unfold Ieee.Format.order kk
  rw [read_eq, read_eq]
  by_cases h1 : rg x < 9218868437227405312
  · rw [if_pos h1]
    by_cases h2 : rg y < 9218868437227405312
    · rw [if_pos h2]
      simp only [Ieee.Datum.order]
      obtain ⟨b, hb⟩ : ∃ b, min (pl (rg x)) (pl (rg y)) = b := ⟨_, rfl⟩
      rw [show min (-1074 + (pl (rg x) : Int)) (-1074 + (pl (rg y) : Int)) = -1074 + (b : Int) by omega, show (-1074 + (pl (rg x) : Int) - (-1074 + (b : Int))).toNat = pl (rg x) - b by omega, show (-1074 + (pl (rg y) : Int) - (-1074 + (b : Int))).toNat = pl (rg y) - b by omega]
      rw [compare_mul _ _ (2 ^ b) (Nat.two_pow_pos b), signed_shift _ _ _ _ (by omega), signed_shift _ _ _ _ (by omega)]
      congr 1
      refine compare_sg (v := vl (rg x)) (u := vl (rg y)) _ _ ⟨fun h => ?_, fun h => vl_mono h h2⟩ ⟨fun h => ?_, fun h => vl_mono h h1⟩ (vl_zero _) (vl_zero _)
      · rcases Nat.lt_trichotomy (rg x) (rg y) with q | q | q
        · exact q
        · rw [q] at h; omega
        · have := vl_mono q h1; omega
      · rcases Nat.lt_trichotomy (rg x) (rg y) with q | q | q
        · have := vl_mono q h2; omega
        · rw [q] at h; omega
        · exact q
    · rw [if_neg h2, if_pos (by omega)]
      simp only [Ieee.Datum.order]
      rw [icmp]
      unfold sg
      cases ng x <;> cases ng y <;> simp only [Bool.false_eq_true, if_true, if_false] <;> first | rfl | rw [if_pos (by omega)] | rw [if_neg (by omega), if_pos (by omega)] | rw [if_neg (by omega), if_neg (by omega)]
  · rw [if_neg h1, if_pos (by omega)]
    by_cases h2 : rg y < 9218868437227405312
    · rw [if_pos h2]
      simp only [Ieee.Datum.order]
      rw [icmp]
      unfold sg
      cases ng x <;> cases ng y <;> simp only [Bool.false_eq_true, if_true, if_false] <;> first | rfl | rw [if_pos (by omega)] | rw [if_neg (by omega), if_pos (by omega)] | rw [if_neg (by omega), if_neg (by omega)]
    · rw [if_neg h2, if_pos (by omega)]
      simp only [Ieee.Datum.order]
      rw [icmp, show rg x = rg y by omega]
      unfold sg
      cases ng x <;> cases ng y <;> simp only [Bool.false_eq_true, if_true, if_false, Bool.toNat] <;> first | (simp; done) | (rw [if_pos (by omega)]; decide) | (rw [if_neg (by omega), if_neg (by omega)]; decide)
end Go.Proofs.Ytngncegokmppiaa.Flo
