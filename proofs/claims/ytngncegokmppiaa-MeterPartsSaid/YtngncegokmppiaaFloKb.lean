/- Numbers in order, by keys. -/
import Derived.Test.YtngncegokmppiaaFloK
namespace Go.Proofs.Ytngncegokmppiaa.Flo
open Go Go.RowKit
set_option linter.unusedVariables false
set_option linter.unusedSimpArgs false
theorem sgn_eq (x : Nat) : sgn x = ng x := by
  unfold sgn ng
  rw [Bool.eq_iff_iff, decide_eq_true_iff, beq_iff_eq]
  unfold wrap64
  omega
def key (x : Nat) : Int := if isN x then -18446744073709551616 else if ng x then -(rg x : Int) - 1 else rg x
theorem rg_lt (x : Nat) : rg x < 9223372036854775808 := Nat.mod_lt _ (by decide)
theorem key_nan {x : Nat} (h : isN x = true) : key x = -18446744073709551616 := by unfold key; rw [if_pos h]
theorem key_num {x : Nat} (h : isN x = false) : key x = if ng x then -(rg x : Int) - 1 else rg x := by unfold key; rw [if_neg (by simp [h])]
theorem key_above {x : Nat} (h : isN x = false) : -18446744073709551616 < key x := by
  have := rg_lt x
  rw [key_num h]
  split <;> omega
theorem ord_lt {x y : Nat} (hx : isN x = false) (hy : isN y = false) : (FloatKind.f64.format.order x y == some Ordering.lt) = decide (kk x < kk y) := by
  rw [show FloatKind.f64.format.order x y = _ from order_eq hx hy, icmp]
  by_cases h : kk x < kk y
  · rw [if_pos h, decide_eq_true h]; rfl
  · rw [if_neg h, decide_eq_false h]; split <;> rfl
theorem ord_gt {x y : Nat} (hx : isN x = false) (hy : isN y = false) : (FloatKind.f64.format.order x y == some Ordering.gt) = decide (kk y < kk x) := by
  rw [show FloatKind.f64.format.order x y = _ from order_eq hx hy, icmp]
  by_cases h : kk x < kk y
  · rw [if_pos h, decide_eq_false (by omega)]; rfl
  · rw [if_neg h]
    by_cases h2 : kk x = kk y
    · rw [if_pos h2, decide_eq_false (by omega)]; rfl
    · rw [if_neg h2, decide_eq_true (by omega)]; rfl
theorem ord_eq {x y : Nat} (hx : isN x = false) (hy : isN y = false) : (FloatKind.f64.format.order x y == some Ordering.eq) = decide (kk x = kk y) := by
  rw [show FloatKind.f64.format.order x y = _ from order_eq hx hy, icmp]
  by_cases h : kk x < kk y
  · rw [if_pos h, decide_eq_false (by omega)]; rfl
  · rw [if_neg h]
    by_cases h2 : kk x = kk y
    · rw [if_pos h2, decide_eq_true h2]; rfl
    · rw [if_neg h2, decide_eq_false h2]; rfl
theorem isN_0 : isN 0 = false := by decide
theorem kk_0 : kk 0 = 0 := by decide
theorem cmpF_key (a b : Nat) : cmpF a b = if key a < key b then -1 else if key b < key a then 1 else 0 := by
  unfold cmpF ccmp
  cases ha : isN a <;> cases hb : isN b
  · simp only [Bool.false_eq_true, if_false]
    have e0 : (FloatKind.f64.format.order a 0 != some Ordering.eq) = !(decide (kk a = 0)) := by rw [bne, ord_eq ha isN_0, kk_0]
    rw [ord_lt ha hb, ord_gt ha hb, e0, sgn_eq, sgn_eq, key_num ha, key_num hb]
    have h1 := rg_lt a
    have h2 := rg_lt b
    unfold kk sg
    cases ng a <;> cases ng b <;> simp only [Bool.false_eq_true, if_true, if_false, decide_eq_true_eq, Bool.or_eq_true, bne_iff_ne, ne_eq, Bool.not_eq_true', decide_eq_false_iff_not, beq_iff_eq, Bool.true_eq_false, reduceCtorEq, Bool.not_true, Bool.not_false] <;> (repeat' split) <;> first | rfl | omega | (exfalso; simp_all; omega)
  · have h := key_above ha
    simp only [Bool.false_eq_true, if_false, if_true]
    rw [key_nan hb, if_pos (by rw [Bool.or_eq_true]; exact .inl (by decide)), if_neg (by omega), if_pos h]
  · have h := key_above hb
    simp only [Bool.false_eq_true, if_false, if_true]
    rw [key_nan ha, if_pos (by rw [Bool.or_eq_true]; exact .inl (by decide)), if_pos h]
  · simp only [if_true]
    rw [key_nan ha, key_nan hb, if_pos (by
      rw [Bool.or_eq_true]; right
      have h := ord_nan ha 0
      unfold ord at h
      rw [show FloatKind.f64.format.order a 0 = none from h]
      rfl)]
    rfl
theorem cmpF_pos (a b : Nat) : 0 < cmpF a b ↔ key b < key a := by rw [cmpF_key]; split <;> (try split) <;> omega
theorem cmpF_neg (a b : Nat) : cmpF a b < 0 ↔ key a < key b := by rw [cmpF_key]; split <;> (try split) <;> omega
theorem cmpF_nul (a b : Nat) : cmpF a b = 0 ↔ key a = key b := by rw [cmpF_key]; split <;> (try split) <;> omega
theorem key_cv {a b : Nat} (ha : a < 18446744073709551616) (hb : b < 18446744073709551616) (h : key a = key b) : cv a = cv b := by
  cases na : isN a <;> cases nb : isN b
  · rw [key_num na, key_num nb] at h
    have h1 := rg_lt a
    have h2 := rg_lt b
    have e1 := word_back a ha
    have e2 := word_back b hb
    have : a = b := by
      rw [← e1, ← e2]
      unfold ng at h ⊢
      cases x : (a / 9223372036854775808 % 2 == 1) <;> cases y : (b / 9223372036854775808 % 2 == 1) <;> simp only [x, y, Bool.false_eq_true, if_true, if_false] at h
      · rw [show rg a = rg b by omega]
      · omega
      · omega
      · rw [show rg a = rg b by omega]
    rw [this]
  · have := key_above na; rw [key_nan nb] at h; omega
  · have := key_above nb; rw [key_nan na] at h; omega
  · rw [cv_none na, cv_none nb]
theorem cv_key {a b : Nat} (h : cv a = cv b) : key a = key b := by
  cases na : isN a <;> cases nb : isN b
  · rw [cv_some na, cv_some nb] at h
    rw [Option.some.inj h]
  · rw [cv_some na, cv_none nb] at h; cases h
  · rw [cv_none na, cv_some nb] at h; cases h
  · rw [key_nan na, key_nan nb]
end Go.Proofs.Ytngncegokmppiaa.Flo
