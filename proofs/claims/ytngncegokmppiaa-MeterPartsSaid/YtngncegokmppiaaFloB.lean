/- Floats by their values: all that is no number is one; what the operations give. -/
import Derived.Laws.FloatArith
import Derived.Laws.NewFold
import Derived.Handy
namespace Go.Proofs.Ytngncegokmppiaa.Flo
open Go
set_option linter.unusedVariables false
set_option linter.unusedSimpArgs false
abbrev D : Ieee.Format := FloatKind.f64.format
def isN (x : Nat) : Bool := (D.read x).isNaN
def cv (x : Nat) : Option Nat := if isN x then none else some x
theorem cv_none {x : Nat} (h : isN x = true) : cv x = none := by unfold cv; rw [if_pos h]
theorem cv_some {x : Nat} (h : isN x = false) : cv x = some x := by unfold cv; rw [if_neg (by simp [h])]
theorem D_eq : D = { exponentBits := 11, fractionBits := 52 } := rfl
theorem read_word (neg : Bool) (r : Nat) (h : r ≤ D.infRung) : (D.read (D.word neg r)).isNaN = false := by
  have e1 : D.infRung = 9218868437227405312 := by decide
  have e2 : D.signWeight = 9223372036854775808 := by decide
  have e3 : D.binade = 4503599627370496 := by decide
  have hm : D.word neg r % D.signWeight = r := by
    unfold Ieee.Format.word
    rw [e2]
    cases neg
    · show r % 9223372036854775808 = r; omega
    · show (9223372036854775808 + r) % 9223372036854775808 = r; omega
  unfold Ieee.Format.read
  simp only [hm]
  split
  · rfl
  · split
    · rfl
    · split
      · rfl
      · omega
theorem write_num {d : Ieee.Datum} (h : d.isNaN = false) : isN (D.write d) = false := by
  unfold isN
  cases d with
  | number neg mag place =>
    show (D.read (D.nearest neg mag place)).isNaN = false
    unfold Ieee.Format.nearest
    split
    · exact read_word _ _ (Nat.zero_le _)
    · exact read_word _ _ (Nat.min_le_right _ _)
  | infinity neg => exact read_word _ _ (Nat.le_refl _)
  | nan neg t => cases h
/-- What an operation gives: none, if that is no number. -/
def fop (op : BinOp) : Option Nat → Option Nat → Option Nat
  | some x, some y => floatBits op .f64 x y
  | _, _ => none
theorem sum_num {a b d : Ieee.Datum} (h : a.sum b = some d) : d.isNaN = false := by
  cases a <;> cases b <;> simp [Ieee.Datum.sum] at h
  all_goals first | (subst h; rfl) | (obtain ⟨_, rfl⟩ := h; rfl)
theorem product_num {a b d : Ieee.Datum} (h : a.product b = some d) : d.isNaN = false := by
  cases a <;> cases b <;> simp [Ieee.Datum.product] at h
  all_goals first | (subst h; rfl) | (obtain ⟨_, rfl⟩ := h; rfl)
theorem quotient_num {n : Nat} {a b d : Ieee.Datum} (h : a.quotient n b = some d) : d.isNaN = false := by
  cases a <;> cases b <;> simp only [Ieee.Datum.quotient] at h
  all_goals first
    | (cases h; done)
    | (cases h; rfl)
    | (split at h
       · split at h
         · cases h
         · cases h; rfl
       · cases h; rfl)
theorem map_num {o : Option Ieee.Datum} {r : Nat} (ho : ∀ d, o = some d → d.isNaN = false) (h : o.map D.write = some r) : isN r = false := by
  cases o with
  | none => cases h
  | some d => obtain rfl := Option.some.inj h; exact write_num (ho d rfl)
theorem bits_num {op : BinOp} {x y r : Nat} (h : floatBits op .f64 x y = some r) : cv r = some r := by
  refine cv_some ?_
  unfold floatBits at h
  split at h
  · exact map_num (fun d hd => sum_num hd) h
  · exact map_num (fun d hd => sum_num hd) h
  · exact map_num (fun d hd => product_num hd) h
  · exact map_num (fun d hd => quotient_num hd) h
  · cases h
theorem isN_read {x : Nat} (h : isN x = true) : ∃ s t, D.read x = .nan s t := by
  unfold isN at h
  cases hd : D.read x with
  | number _ _ _ => rw [hd] at h; cases h
  | infinity _ => rw [hd] at h; cases h
  | nan s t => exact ⟨s, t, rfl⟩
theorem bits_left {op : BinOp} {x y : Nat} (h : isN x = true) : floatBits op .f64 x y = none := by
  obtain ⟨s, t, hd⟩ := isN_read h
  unfold floatBits
  split <;> first | rfl | (show Option.map D.write _ = none; rw [show D.read x = _ from hd]; rfl)
theorem bits_right {op : BinOp} {x y : Nat} (h : isN y = true) : floatBits op .f64 x y = none := by
  obtain ⟨s, t, hd⟩ := isN_read h
  unfold floatBits
  split <;> first | rfl | (show Option.map D.write _ = none; rw [show D.read y = _ from hd]; cases D.read x <;> rfl)
theorem fop_cv (op : BinOp) (x y : Nat) : fop op (cv x) (cv y) = floatBits op .f64 x y := by
  cases hx : isN x with
  | true => rw [cv_none hx, bits_left hx]; rfl
  | false =>
    rw [cv_some hx]
    cases hy : isN y with
    | true => rw [cv_none hy, bits_right hy]; rfl
    | false => rw [cv_some hy]; rfl
theorem nan_cut (x y t : Nat) : isN ((Question.nanBits .f64 x y).cut t) = true := by
  have e1 : D.infRung = 9218868437227405312 := by decide
  have e2 : D.signWeight = 9223372036854775808 := by decide
  have e3 : D.binade = 4503599627370496 := by decide
  show isN ((t % 2) * 2 ^ 63 + 0x7ff0000000000000 + 1 + (t / 2) % (2 ^ 52 - 1)) = true
  generalize hz : (t % 2) * 2 ^ 63 + 0x7ff0000000000000 + 1 + (t / 2) % (2 ^ 52 - 1) = z
  have hm : z % 9223372036854775808 = 0x7ff0000000000000 + 1 + (t / 2) % (2 ^ 52 - 1) := by omega
  unfold isN Ieee.Format.read
  rw [e1, e2, e3]
  simp only [hm]
  split
  · omega
  · split
    · omega
    · split
      · omega
      · rfl
/-- An operation, whatever it gives. -/
theorem run_fop (P : Program) (w : World) (op : BinOp) (hop : op = .add ∨ op = .sub ∨ op = .mul ∨ op = .quo) (t : TypeId) (x y : Nat) : ∃ r w', (binOp op t (.float .f64 x) (.float .f64 y)).run P w = .ok (.float .f64 r) w' ∧ cv r = fop op (cv x) (cv y) ∧ (w' = w ∨ w' = w.drew) := by
  rw [fop_cv]
  cases h : floatBits op .f64 x y with
  | some r => exact ⟨r, w, run_float_arith w op t .f64 x y r h, bits_num h, .inl rfl⟩
  | none =>
    refine ⟨_, w.drew, ?_, cv_none (nan_cut x y (w.tape w.drawn (.nanBits .f64 x y))), .inr rfl⟩
    have hf : (Question.nanBits .f64 x y).forced = false := rfl
    rcases hop with rfl | rfl | rfl | rfl <;> (simp only [floatBits] at h; simp [binOp, Op.floatArith, h, hf])
end Go.Proofs.Ytngncegokmppiaa.Flo
