/- Texts as words, in plain Lean. -/
import Derived.Test.YtkjmhijgjllnbaaPureBase
namespace Go.Proofs.Ytkjmhijgjllnbaa.Pure
open Go.RowKit Go.Proofs.Ytkjmhijgjllnbaa.Print Go.Proofs.YtkjmhijgjllnbaaW.PrintWords Go.Proofs.YtkjmhijgjllnbaaW.PrintLast Go.Proofs.YtkjmhijgjllnbaaW.PrintMore

def le : List Nat → Nat
  | [] => 0
  | c :: r => c + 256 * le r
theorem le_snoc (xs : List Nat) (c : Nat) : le (xs ++ [c]) = le xs + c * 256 ^ xs.length := by
  induction xs with
  | nil => simp [le]
  | cons a r ih =>
    simp only [List.cons_append, le, ih, List.length_cons, Nat.pow_succ, Nat.mul_add]
    rw [show 256 * (c * 256 ^ r.length) = c * (256 ^ r.length * 256) by rw [Nat.mul_left_comm, Nat.mul_comm 256]]
    omega
theorem le_lt (xs : List Nat) (h : ∀ x ∈ xs, x < 256) : le xs < 256 ^ xs.length := by
  induction xs with
  | nil => simp [le]
  | cons a r ih =>
    have h1 := ih (fun x hx => h x (List.mem_cons_of_mem _ hx))
    have h2 := h a (List.mem_cons_self ..)
    simp only [le, List.length_cons, Nat.pow_succ]
    omega
theorem le_digit (xs : List Nat) (h : ∀ x ∈ xs, x < 256) : ∀ r, (le xs / 256 ^ r) % 256 = xs.getD r 0 := by
  induction xs with
  | nil => intro r; simp [le]
  | cons a t ih =>
    intro r
    have h2 := h a (List.mem_cons_self ..)
    cases r with
    | zero => simp only [le, Nat.pow_zero, Nat.div_one, List.getD_cons_zero]; omega
    | succ r =>
      have h1 := ih (fun x hx => h x (List.mem_cons_of_mem _ hx)) r
      rw [List.getD_cons_succ, ← h1, Nat.pow_succ, Nat.mul_comm, ← Nat.div_div_eq_div_mul]
      simp only [le]
      rw [show (a + 256 * le t) / 256 = le t by omega]
theorem le_of_digits : ∀ (k w : Nat), le ((List.range k).map fun r => (w / 256 ^ r) % 256) = w % 256 ^ k := by
  intro k
  induction k with
  | zero => intro w; simp [le, Nat.mod_one]
  | succ k ih =>
    intro w
    rw [List.range_succ, List.map_append, List.map_cons, List.map_nil, le_snoc, ih w, List.length_map, List.length_range, Nat.pow_succ, Nat.mod_mul, Nat.mul_comm (256 ^ k)]
theorem p256 (r : Nat) : 256 ^ r = 2 ^ (8 * r) := by rw [Nat.pow_mul]
def nb (s : ByteArray) : List Nat := s.data.toList.map UInt8.toNat
theorem nb_length (s : ByteArray) : (nb s).length = s.size := by rw [nb, List.length_map]; exact data_length s
theorem nb_lt (s : ByteArray) : ∀ x ∈ nb s, x < 256 := by
  intro x hx
  obtain ⟨y, _, rfl⟩ := List.mem_map.1 hx
  exact y.toNat_lt
def ints (c : List Nat) : List Int := c.map (fun (x : Nat) => (x : Int))
theorem ints_length (c : List Nat) : (ints c).length = c.length := List.length_map ..
theorem rd_ints (c : List Nat) (i : Nat) (h : i < c.length) : rd (ints c) (i : Int) = (c[i] : Int) := by
  rw [rd_nat _ i (by rw [ints_length]; exact h)]; simp [ints]
theorem ints_set (c : List Nat) (i n : Nat) : (ints c).set i (n : Int) = ints (c.set i n) := by
  unfold ints; rw [List.map_set]
theorem bytes_ints (s : ByteArray) : bytesOf s = ints (nb s) := by
  unfold bytesOf ints nb
  rw [List.map_map]
  rfl
/-- Word j of the first i bytes. -/
def word (b : List Nat) (i j : Nat) : Nat := le ((b.drop (8 * j)).take (min 8 (i - 8 * j)))
def wordsOf (b : List Nat) (n i : Nat) : List Nat := (List.range n).map (word b i)
theorem wordsOf_length (b : List Nat) (n i : Nat) : (wordsOf b n i).length = n := by simp [wordsOf]
theorem piece_lt (b : List Nat) (h : ∀ x ∈ b, x < 256) (m n : Nat) : ∀ x ∈ (b.drop m).take n, x < 256 := fun x hx => h x (List.mem_of_mem_drop (List.mem_of_mem_take hx))
theorem word_lt (b : List Nat) (h : ∀ x ∈ b, x < 256) (i j : Nat) : word b i j < 256 ^ (min 8 (i - 8 * j)) := by
  unfold word
  refine Nat.lt_of_lt_of_le (le_lt _ (piece_lt b h _ _)) (Nat.pow_le_pow_right (by decide) ?_)
  rw [List.length_take]; omega
theorem word_lt64 (b : List Nat) (h : ∀ x ∈ b, x < 256) (i j : Nat) : word b i j < 2 ^ 64 := by
  have h1 := word_lt b h i j
  have h2 : 256 ^ (min 8 (i - 8 * j)) ≤ 256 ^ 8 := Nat.pow_le_pow_right (by decide) (by omega)
  have h3 : (256 : Nat) ^ 8 = 2 ^ 64 := by decide
  omega
theorem word_next (b : List Nat) (i : Nat) (hi : i < b.length) : word b (i + 1) (i / 8) = word b i (i / 8) + b[i] * 256 ^ (i % 8) := by
  unfold word
  have e1 : min 8 (i + 1 - 8 * (i / 8)) = i % 8 + 1 := by omega
  have e2 : min 8 (i - 8 * (i / 8)) = i % 8 := by omega
  have hl : i % 8 < (b.drop (8 * (i / 8))).length := by rw [List.length_drop]; omega
  rw [e1, e2, List.take_succ_eq_append_getElem hl, le_snoc, List.length_take, Nat.min_eq_left (by omega)]
  congr 2
  rw [List.getElem_drop]
  congr 1
  omega
theorem word_same (b : List Nat) (i j : Nat) (h : j ≠ i / 8) : word b (i + 1) j = word b i j := by
  unfold word
  congr 2
  omega
theorem wordsOf_next (b : List Nat) (n i : Nat) (_ : i / 8 < n) : (wordsOf b n i).set (i / 8) (word b (i + 1) (i / 8)) = wordsOf b n (i + 1) := by
  apply List.ext_getElem
  · simp [wordsOf]
  · intro j h1 h2
    rw [List.getElem_set]
    simp only [wordsOf, List.getElem_map, List.getElem_range]
    by_cases e : i / 8 = j
    · rw [if_pos e, e]
    · rw [if_neg e, word_same b i j (fun h => e h.symm)]
theorem wordsOf_zero (b : List Nat) (n : Nat) : wordsOf b n 0 = List.replicate n 0 := by
  apply List.ext_getElem
  · simp [wordsOf]
  · intro j h1 h2
    simp [wordsOf, word, le]
/-- One byte more, by or: by Put: the same. -/
theorem or_step {x c y : Nat} (hx : x < 2 ^ y) (hc : c < 256) (hy : y ≤ 56) : x ||| ((c <<< y) % 2 ^ 64) = x + c * 2 ^ y := by
  have h1 : c * 2 ^ y < 2 ^ 64 := by
    have h2 : 2 ^ y ≤ 2 ^ 56 := Nat.pow_le_pow_right (by decide) hy
    have h3 : c * 2 ^ y ≤ 255 * 2 ^ 56 := Nat.mul_le_mul (by omega) h2
    have h4 : 255 * 2 ^ 56 < 2 ^ 64 := by decide
    omega
  rw [Nat.shiftLeft_eq, Nat.mod_eq_of_lt h1, Nat.or_comm, Nat.mul_comm, ← Nat.two_pow_add_eq_or_of_lt hx, Nat.add_comm]
theorem put_step {x c y : Nat} (hx : x < 2 ^ y) (hc : c < 256) (hy : y ≤ 56) : putN x y 8 c = x + c * 2 ^ y := by
  have hx64 : x < 2 ^ 64 := Nat.lt_of_lt_of_le hx (Nat.pow_le_pow_right (by decide) (by omega))
  apply Nat.eq_of_testBit_eq
  intro i
  rw [putN_bit hx64 (by omega) (show c < 2 ^ 8 from hc), Nat.add_comm x, Nat.mul_comm c, Nat.testBit_two_pow_mul_add c hx]
  by_cases h : i < y
  · rw [if_neg (by omega), if_pos h]
  · rw [if_neg h]
    by_cases h2 : i < y + 8
    · rw [if_pos ⟨by omega, h2⟩]
    · have h3 : x.testBit i = false := Nat.testBit_lt_two_pow (Nat.lt_of_lt_of_le hx (Nat.pow_le_pow_right (by decide) (by omega)))
      have h4 : c.testBit (i - y) = false := Nat.testBit_lt_two_pow (Nat.lt_of_lt_of_le (show c < 2 ^ 8 from hc) (Nat.pow_le_pow_right (by decide) (by omega)))
      rw [if_neg (by omega), h3, h4]
theorem word_lt_y (b : List Nat) (h : ∀ x ∈ b, x < 256) (i : Nat) : word b i (i / 8) < 2 ^ (8 * (i % 8)) := by
  have h1 := word_lt b h i (i / 8)
  rw [show min 8 (i - 8 * (i / 8)) = i % 8 by omega, p256] at h1
  exact h1
theorem text_from (b : List Nat) (n : Nat) (hb : ∀ x ∈ b, x < 256) (hn : b.length ≤ 8 * n) : ∀ (d i : Nat), i + d = b.length → textFrom (ints (wordsOf b n i)) i (ints (b.drop i)) = ints (wordsOf b n b.length) := by
  intro d
  induction d with
  | zero =>
    intro i hi
    rw [List.drop_of_length_le (by omega), show i = b.length by omega]
    rfl
  | succ d ih =>
    intro i hi
    have hlt : i < b.length := by omega
    have hc : b[i] < 256 := hb _ (List.getElem_mem hlt)
    have hj : i / 8 < (wordsOf b n i).length := by rw [wordsOf_length]; omega
    have hw := word_lt_y b hb i
    have hw64 := word_lt64 b hb i (i / 8)
    rw [List.drop_eq_getElem_cons hlt, show ints (b[i] :: b.drop (i + 1)) = (b[i] : Int) :: ints (b.drop (i + 1)) from rfl, textFrom, ← ih (i + 1) (by omega)]
    congr 1
    unfold textStep
    rw [rd_ints _ _ hj, wrapu_nat (by omega), shln _ _ (by omega), show (wordsOf b n i)[i / 8] = word b i (i / 8) by simp [wordsOf], bor hw64 (Nat.mod_lt _ (by decide)), or_step hw hc (by omega), ints_set,
      show 2 ^ (8 * (i % 8)) = 256 ^ (i % 8) from (p256 _).symm, ← word_next b i hlt, wordsOf_next b n i (by omega)]
theorem Text_yes (s : ByteArray) (n : Nat) (hn : n ≤ 64) (hs : s.size ≤ 8 * n) : words_Text.f s (n : Int) = some (ints (wordsOf (nb s) n s.size), 0) := by
  unfold words_Text.f
  rw [if_neg (by omega), if_neg (by omega), Int.toNat_natCast, bytes_ints]
  have := text_from (nb s) n (nb_lt s) (by rw [nb_length]; exact hs) (nb s).length 0 (by omega)
  rw [wordsOf_zero, List.drop_zero, nb_length, show ints (List.replicate n 0) = List.replicate n (0 : Int) by simp [ints]] at this
  rw [this]
theorem bt_nat (s : ByteArray) (i : Nat) (h : i < s.size) : bt s (i : Int) = (((nb s)[i]'(by rw [nb_length]; exact h) : Nat) : Int) := by
  rw [← rd_bytesOf, bytes_ints, rd_ints]
theorem okByte (r : Nat) (h : r < 8) : okF ((8 * r : Nat) : Int) ((8 : Nat) : Int) := by unfold okF; omega
theorem reftext_step (k : Nat) (s : ByteArray) (c : List Nat) (i b : Nat) (hi : i < s.size) (hi2 : i < 1000) (hj : i / 8 < c.length) (hb : bt s (i : Int) = (b : Int)) (hb2 : b < 256) :
    escritoireref01_Text.l0 (k + 1) s (ints c) (i : Int) = (escritoireref01_Put.f k ((c[i / 8] : Nat) : Int) ((8 * (i % 8) : Nat) : Int) ((8 : Nat) : Int) (b : Int)).bind fun bt164 => (escritoireref01_Text.l0 k s ((ints c).set (i / 8) bt164.1) ((i + 1 : Nat) : Int)) := by
  have e1 : wrap64 (Int.tdiv (i : Int) 8) = ((i / 8 : Nat) : Int) := by rw [Int.tdiv_eq_ediv_of_nonneg (by omega), wrap_id (by omega) (by omega)]; omega
  have e2 : wrap64 (8 * Int.tmod (i : Int) 8) = ((8 * (i % 8) : Nat) : Int) := by rw [Int.tmod_eq_emod_of_nonneg (by omega), wrap_id (by omega) (by omega)]; omega
  have e3 : wrap64 ((i : Int) + 1) = ((i + 1 : Nat) : Int) := by rw [wrap_id (by omega) (by omega)]; omega
  rw [escritoireref01_Text.l0, e1, e2, e3, if_pos (by omega), if_pos (by omega), if_pos (by rw [ints_length]; omega), if_pos (by omega), rd_ints _ _ hj, hb, wrapu_nat (by omega), Int.toNat_natCast, Int.cast_ofNat_Int]
theorem wordsOf_at (b : List Nat) (n i j : Nat) (h : j < (wordsOf b n i).length) : (wordsOf b n i)[j] = word b i j := by simp [wordsOf]
theorem refput_byte (b : List Nat) (hb : ∀ x ∈ b, x < 256) (i : Nat) (hi : i < b.length) : Ev (fun k => escritoireref01_Put.f k ((word b i (i / 8) : Nat) : Int) ((8 * (i % 8) : Nat) : Int) ((8 : Nat) : Int) ((b[i] : Nat) : Int)) (((word b (i + 1) (i / 8) : Nat) : Int), 0) := by
  have hc : b[i] < 256 := hb _ (List.getElem_mem hi)
  have hw := word_lt_y b hb i
  have hput := refPut_ev (w := word b i (i / 8)) (a := 8 * (i % 8)) (b := 8) (v := b[i]) (word_lt64 b hb i (i / 8)) (by omega) (okByte (i % 8) (by omega))
  have hv : b[i] < 2 ^ 8 := hc
  rw [if_pos hv, put_step hw hc (by omega), ← p256, ← word_next b i hi] at hput
  exact hput
theorem reftext_l_ev (s : ByteArray) (n : Nat) (hn : n ≤ 64) (hs : s.size ≤ 8 * n) : ∀ (d i : Nat), i + d = s.size → Ev (fun k => escritoireref01_Text.l0 k s (ints (wordsOf (nb s) n i)) (i : Int)) (ints (wordsOf (nb s) n s.size), 0) := by
  intro d
  induction d with
  | zero =>
    intro i hi
    rw [show i = s.size by omega]
    exact Ev.step (fun k => by rw [escritoireref01_Text.l0, if_neg (by omega)]) (Ev.now _)
  | succ d ih =>
    intro i hi
    have hlt : i < s.size := by omega
    have hl : i < (nb s).length := by rw [nb_length]; exact hlt
    have hj : i / 8 < (wordsOf (nb s) n i).length := by rw [wordsOf_length]; omega
    have h0 := fun k => reftext_step k s (wordsOf (nb s) n i) i (nb s)[i] hlt (by omega) hj (bt_nat s i hlt) (nb_lt s _ (List.getElem_mem hl))
    rw [wordsOf_at] at h0
    have h1 := ih (i + 1) (by omega)
    rw [← wordsOf_next (nb s) n i (by omega), ← ints_set] at h1
    exact Ev.step h0 (Ev.bind (refput_byte (nb s) (nb_lt s) i hl) h1)
theorem refText_yes (s : ByteArray) (n : Nat) (hn : n ≤ 64) (hs : s.size ≤ 8 * n) : Ev (fun k => escritoireref01_Text.f k s (n : Int)) (ints (wordsOf (nb s) n s.size), 0) := by
  have h := reftext_l_ev s n hn hs s.size 0 (by omega)
  rw [wordsOf_zero, show ints (List.replicate n 0) = List.replicate n (0 : Int) by simp [ints]] at h
  have h1 : Ev (fun k => escritoireref01_Text.j0 k s (n : Int) false) (ints (wordsOf (nb s) n s.size), 0) := by
    refine Ev.step (fun k => ?_) h
    simp only [escritoireref01_Text.j0]
    rw [if_neg (by simp), wrap_id (by omega) (by omega), if_neg (by omega), if_pos (by omega), if_pos (by omega), Int.toNat_natCast]
    rfl
  refine Ev.congr (fun k => ?_) h1
  unfold escritoireref01_Text.f
  rw [if_neg (by omega), decide_eq_false (by omega)]
theorem Text_no1 (s : ByteArray) (n : Int) (h : n < 0 ∨ n > 64) : words_Text.f s n = some ([], 1) := by unfold words_Text.f; rw [if_pos h]
theorem Text_no2 (s : ByteArray) (n : Int) (h : ¬ (n < 0 ∨ n > 64)) (h2 : (s.size : Int) > 8 * n) : words_Text.f s n = some ([], 2) := by unfold words_Text.f; rw [if_neg h, if_pos h2]
theorem refText_no1 (s : ByteArray) (n : Int) (h : n < 0 ∨ n > 64) : Ev (fun k => escritoireref01_Text.f k s n) ([], 1) := by
  have h1 : Ev (fun k => escritoireref01_Text.j0 k s n true) ([], 1) := Ev.step (fun k => by rw [escritoireref01_Text.j0, if_pos rfl]) (Ev.now _)
  refine Ev.congr (fun k => ?_) h1
  unfold escritoireref01_Text.f
  by_cases c : n < 0
  · rw [if_pos c]
  · rw [if_neg c, decide_eq_true (by omega)]
theorem refText_no2 (s : ByteArray) (n : Int) (h : ¬ (n < 0 ∨ n > 64)) (h2 : (s.size : Int) > 8 * n) : Ev (fun k => escritoireref01_Text.f k s n) ([], 2) := by
  have h1 : Ev (fun k => escritoireref01_Text.j0 k s n false) ([], 2) := by
    refine Ev.step (fun k => ?_) (Ev.now _)
    simp only [escritoireref01_Text.j0]
    rw [if_neg (by simp), wrap_id (by omega) (by omega), if_pos h2]
  refine Ev.congr (fun k => ?_) h1
  unfold escritoireref01_Text.f
  rw [if_neg (by omega), decide_eq_false (by omega)]
theorem same_ev (l : List Int) (hl : l.length ≤ 140737488351232) : Ev (fun k => escritoireref01_Same.f k l l) true := by
  have key : ∀ (d i : Nat), i + d = l.length → Ev (fun k => escritoireref01_Same.l0 k l l (i : Int)) true := by
    intro d
    induction d with
    | zero => intro i hi; exact Ev.step (fun k => by simp only [escritoireref01_Same.l0]; rw [if_neg (by omega)]) (Ev.now _)
    | succ d ih =>
      intro i hi
      refine Ev.step (fun k => ?_) (ih (i + 1) (by omega))
      simp only [escritoireref01_Same.l0]
      rw [if_pos (by omega), if_pos (by omega), if_pos (by omega), if_pos trivial, wrap_id (by omega) (by omega)]
      rfl
  exact Ev.congr (fun k => by unfold escritoireref01_Same.f; rw [if_pos rfl]; rfl) (key l.length 0 (by omega))
end Go.Proofs.Ytkjmhijgjllnbaa.Pure
