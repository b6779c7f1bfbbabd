/- The head of the words: both rights, told in plain Lean. -/
import Derived.Test.YtbiabamijodmiaaPrintK
import Derived.KernelRfl
namespace Go.Proofs.Ytbiabamijodmiaa.Pure.Right
open Go.RowKit Go.Proofs.Ytbiabamijodmiaa.Print Go.Proofs.YtbiabamijodmiaaW.PrintWords Go.Proofs.YtbiabamijodmiaaW.PrintLast Go.Proofs.YtbiabamijodmiaaW.PrintMore
def head : List Int := [7021221306412823411, 2824, 0, 0, 0, 0, 0, 0]
theorem up {α : Type} {f : Nat → Option α} (h : ∀ k, LeO (f k) (f (k + 1))) {k k' : Nat} (hk : k ≤ k') {r : α} (hr : f k = some r) : f k' = some r := by
  induction hk with
  | refl => exact hr
  | step _ ih => exact h _ _ ih
def R (l : List Int) : Bool := decide (l.length = 2824 ∧ l.take 8 = head)
theorem size_f : plan_Size.f 20 = some 2824 := by kernel_rfl
theorem head_f : plan_Head.f 20 = some head := by kernel_rfl
theorem lives_f : escritoirelaw05_lives.f 20 = some true := by kernel_rfl
theorem wrap_id {n : Int} (h0 : -9223372036854775808 ≤ n) (h1 : n < 9223372036854775808) : wrap64 n = n := by unfold wrap64; omega
theorem rd_at (xs : List Int) {i : Nat} (h : i < xs.length) : rd xs (i : Int) = xs[i] := by
  unfold rd
  rw [Int.toNat_natCast, List.getD_eq_getElem?_getD, List.getElem?_eq_getElem h]
  rfl
theorem eq_l0 : ∀ (n k : Nat) (xs ys : List Int) (i : Nat), xs.length = ys.length → xs.length ≤ i + n → n < k → xs.length < 4611686018427387904 → slices_Equal_uint64_uint64.l0 k xs ys (xs.length : Int) (i : Int) = some (decide (xs.drop i = ys.drop i)) := by
  intro n
  induction n with
  | zero =>
    intro k xs ys i hl hi hk hb
    obtain ⟨k, rfl⟩ : ∃ j, k = j + 1 := ⟨k - 1, by omega⟩
    unfold slices_Equal_uint64_uint64.l0
    rw [if_neg (by omega), List.drop_eq_nil_of_le (by omega), List.drop_eq_nil_of_le (by omega)]
    simp
  | succ n ih =>
    intro k xs ys i hl hi hk hb
    obtain ⟨k, rfl⟩ : ∃ j, k = j + 1 := ⟨k - 1, by omega⟩
    unfold slices_Equal_uint64_uint64.l0
    by_cases hlt : i < xs.length
    · have hlt' : i < ys.length := by omega
      rw [if_pos (by omega), if_pos (by omega), if_pos (by omega), if_pos (by omega), rd_at xs hlt, rd_at ys hlt']
      have e1 := List.drop_eq_getElem_cons hlt
      have e2 := List.drop_eq_getElem_cons hlt'
      by_cases he : xs[i] = ys[i]
      · rw [if_pos he, wrap_id (by omega) (by omega), show (i : Int) + 1 = ((i + 1 : Nat) : Int) from by omega, ih k xs ys (i + 1) hl (by omega) (by omega) hb]
        refine congrArg some (decide_eq_decide.2 ⟨fun h => ?_, fun h => ?_⟩)
        · rw [e1, e2, h, he]
        · rw [e1, e2] at h
          exact (List.cons.inj h).2
      · rw [if_neg he]
        refine congrArg some (decide_eq_false fun h => he ?_).symm
        rw [e1, e2] at h
        exact (List.cons.inj h).1
    · rw [if_neg (by omega), List.drop_eq_nil_of_le (by omega), List.drop_eq_nil_of_le (by omega)]
      simp
theorem right_f (l : List Int) : plan_Right.f 20 l = some (R l) := by
  unfold plan_Right.f
  rw [size_f]
  simp only [Option.bind_some]
  by_cases h : l.length = 2824
  · rw [if_pos (by omega), if_pos (by omega), head_f]
    simp only [Option.bind_some]
    unfold slices_Equal_uint64_uint64.f
    have h8 : (l.take 8).length = 8 := by simp [h]
    rw [if_pos (by rw [h8]; rfl)]
    have := eq_l0 8 20 (l.take 8) head 0 (by rw [h8]; rfl) (by omega) (by omega) (by omega)
    rw [show ((0 : Nat) : Int) = 0 from rfl] at this
    rw [this]
    simp [R, h]
  · rw [if_neg (by omega)]
    simp [R, h]
theorem ref_l0 (l : List Int) (hl : 8 ≤ l.length) : ∀ (n k i : Nat), 8 ≤ i + n → n < k → ∃ b, escritoireref05_Right.l0 k l (i : Int) = some b ∧ (b = true ↔ ∀ j, i ≤ j → j < 8 → l.getD j 0 = 0) := by
  intro n
  induction n with
  | zero =>
    intro k i hi hk
    obtain ⟨k, rfl⟩ : ∃ j, k = j + 1 := ⟨k - 1, by omega⟩
    unfold escritoireref05_Right.l0
    rw [if_neg (by omega)]
    exact ⟨true, rfl, by simp; omega⟩
  | succ n ih =>
    intro k i hi hk
    obtain ⟨k, rfl⟩ : ∃ j, k = j + 1 := ⟨k - 1, by omega⟩
    unfold escritoireref05_Right.l0
    by_cases hlt : i < 8
    · rw [if_pos (by omega), if_pos (by omega), if_pos (by omega), rd, Int.toNat_natCast]
      by_cases he : l.getD i 0 = 0
      · rw [if_pos he, wrap_id (by omega) (by omega), show (i : Int) + 1 = ((i + 1 : Nat) : Int) from by omega]
        obtain ⟨b, hb, hi⟩ := ih k (i + 1) (by omega) (by omega)
        refine ⟨b, hb, hi.trans ⟨fun h j hj hj8 => ?_, fun h j hj hj8 => h j (by omega) hj8⟩⟩
        rcases Nat.eq_or_lt_of_le hj with rfl | hj
        · exact he
        · exact h j hj hj8
      · rw [if_neg he]
        exact ⟨false, rfl, by simp; exact ⟨i, by omega, hlt, by simpa using he⟩⟩
    · rw [if_neg (by omega)]
      exact ⟨true, rfl, by simp; omega⟩
theorem j0_t (l : List Int) : escritoireref05_Right.j0 20 l true = some false := rfl
theorem cut {l : List Int} (h : l.length = 2824) : ∃ a b c d e f g i t, l = a :: b :: c :: d :: e :: f :: g :: i :: t := by
  match l, h with
  | a :: b :: c :: d :: e :: f :: g :: i :: t, _ => exact ⟨a, b, c, d, e, f, g, i, t, rfl⟩
theorem R_iff {l : List Int} (h : l.length = 2824) : (l.take 8 = head) ↔ (l.getD 0 0 = 7021221306412823411 ∧ l.getD 1 0 = 2824 ∧ ∀ j, 2 ≤ j → j < 8 → l.getD j 0 = 0) := by
  obtain ⟨a, b, c, d, e, f, g, i, t, rfl⟩ := cut h
  constructor
  · intro hh
    simp [head] at hh
    obtain ⟨rfl, rfl, rfl, rfl, rfl, rfl, rfl, rfl⟩ := hh
    refine ⟨rfl, rfl, fun j h2 h8 => ?_⟩
    obtain rfl | rfl | rfl | rfl | rfl | rfl : j = 2 ∨ j = 3 ∨ j = 4 ∨ j = 5 ∨ j = 6 ∨ j = 7 := by omega
    all_goals rfl
  · rintro ⟨h0, h1, hj⟩
    have h2 := hj 2 (by omega) (by omega)
    have h3 := hj 3 (by omega) (by omega)
    have h4 := hj 4 (by omega) (by omega)
    have h5 := hj 5 (by omega) (by omega)
    have h6 := hj 6 (by omega) (by omega)
    have h7 := hj 7 (by omega) (by omega)
    change a = _ at h0
    change b = _ at h1
    change c = _ at h2
    change d = _ at h3
    change e = _ at h4
    change f = _ at h5
    change g = _ at h6
    change i = _ at h7
    subst h0 h1 h2 h3 h4 h5 h6 h7
    rfl
theorem ref_f (l : List Int) : escritoireref05_Right.f 20 l = some (R l) := by
  unfold escritoireref05_Right.f
  by_cases h : l.length = 2824
  · rw [if_pos (by omega), if_pos (by omega)]
    have hi := R_iff h
    have hr : R l = decide (l.take 8 = head) := by simp [R, h]
    rw [hr]
    rw [show rd l 0 = l.getD 0 0 from rfl, show rd l 1 = l.getD 1 0 from rfl]
    by_cases h0 : l.getD 0 0 = 7021221306412823411
    · rw [if_pos h0, if_pos (by omega)]
      by_cases h1 : l.getD 1 0 = 2824
      · have e1 : (l.getD 1 0 != 2824) = false := by simp only [h1]; rfl
        rw [e1]
        obtain ⟨b, hb, hbi⟩ := ref_l0 l (by omega) 6 19 2 (by omega) (by omega)
        have : escritoireref05_Right.j0 20 l false = escritoireref05_Right.l0 19 l 2 := rfl
        rw [this]
        rw [show ((2 : Nat) : Int) = 2 from rfl] at hb
        rw [hb]
        congr 1
        rw [Bool.eq_iff_iff, hbi, decide_eq_true_eq, hi]
        exact ⟨fun h => ⟨h0, h1, h⟩, fun h => h.2.2⟩
      · have e1 : (l.getD 1 0 != 2824) = true := by rw [bne_iff_ne]; exact h1
        rw [e1, j0_t]
        congr 1
        exact (decide_eq_false fun hh => h1 (hi.1 hh).2.1).symm
    · rw [if_neg h0, j0_t]
      congr 1
      exact (decide_eq_false fun hh => h0 (hi.1 hh).1).symm
  · rw [if_neg (by omega), j0_t]
    simp [R, h]
theorem right_up (l : List Int) {k : Nat} (hk : 20 ≤ k) : plan_Right.f k l = some (R l) := up (fun k => plan_Right.mono l k) hk (right_f l)
theorem ref_up (l : List Int) {k : Nat} (hk : 20 ≤ k) : escritoireref05_Right.f k l = some (R l) := up (fun k => escritoireref05_Right.mono l k) hk (ref_f l)
theorem cpy_len' (xs ys : List Int) (k : Nat) (hk : k ≤ xs.length) : (cpy xs k ys).length = xs.length := by
  unfold cpy
  simp
  omega
theorem cpy_head (xs : List Int) (h : 8 ≤ xs.length) : (cpy xs 0 head).take 8 = head := by
  unfold cpy
  have e : head.take (xs.length - 0) = head := List.take_of_length_le (show 8 ≤ xs.length - 0 by omega)
  rw [List.take_zero, List.nil_append, e, List.take_append_of_le_length (show 8 ≤ 8 by omega)]
  rfl
theorem R_no {l : List Int} (h : l.length ≠ 2824) : R l = false := by simp [R, h]
theorem set_iff (xs : List Int) {i : Nat} (h : i < xs.length) (w : Int) : xs.set i w = xs ↔ w = xs[i] := by
  constructor
  · intro hh
    have := congrArg (fun z => z[i]?) hh
    simp [h] at this
    exact this
  · rintro rfl
    simp
theorem index (a : Int) {n : Int} (h0 : 0 < n) (h1 : n < 1000000) : 0 ≤ wrap64 (Int.tmod (IntKind.u64.wrap a) n) ∧ wrap64 (Int.tmod (IntKind.u64.wrap a) n) < n := by
  have hp : 0 ≤ IntKind.u64.wrap a := by simp [IntKind.wrap, IntKind.signed, IntKind.bits]; omega
  have e := Int.tmod_eq_emod_of_nonneg hp (b := n)
  have l0 := Int.emod_nonneg (IntKind.u64.wrap a) (show n ≠ 0 by omega)
  have l1 := Int.emod_lt_of_pos (IntKind.u64.wrap a) h0
  rw [e, wrap_id (by omega) (by omega)]
  exact ⟨l0, l1⟩
end Go.Proofs.Ytbiabamijodmiaa.Pure.Right
