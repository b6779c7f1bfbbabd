/- The plan's functions, in plain Lean. -/
import Derived.Test.YtkbhilhefnahpaaGreatPrint5
import Derived.Test.YtkbhilhefnahpaaGreatPrint12
import Derived.KernelRfl
namespace Go.Proofs.YtkbhilhefnahpaaGreat.PlanF
open Go Go.RowKit Go.Proofs.YtkbhilhefnahpaaGreat.Print Go.Proofs.YtkbhilhefnahpaaGreatW.PrintWords Go.Proofs.YtkbhilhefnahpaaGreatW.PrintLast Go.Proofs.YtkbhilhefnahpaaGreatW.PrintMore
set_option linter.unusedVariables false
set_option linter.unusedSimpArgs false
theorem up {α : Type} {f : Nat → Option α} (h : ∀ k, LeO (f k) (f (k + 1))) {k k' : Nat} (hk : k ≤ k') {r : α} (hr : f k = some r) : f k' = some r := by
 induction hk with
 | refl => exact hr
 | step _ ih => exact h _ _ ih
def P : List S82 := [⟨1, 0, 1, 8⟩, ⟨2, 8, 24, 8⟩, ⟨3, 200, 96, 1⟩, ⟨4, 296, 4, 248⟩, ⟨5, 1288, 96, 16⟩]
theorem parts_eq : plan_parts.f 7 = some P := by kernel_rfl
def What (a : Int) : Int × Int :=
 if a < 0 then (0, 0) else if a < 8 then (1, 0) else if a < 200 then (2, (a - 8) / 8) else if a < 296 then (3, a - 200) else
 if a < 1288 then (4, (a - 296) / 248) else if a < 2824 then (5, (a - 1288) / 16) else (0, 0)
theorem rd0 : zn P 0 = ⟨1, 0, 1, 8⟩ := rfl
theorem rd1 : zn P 1 = ⟨2, 8, 24, 8⟩ := rfl
theorem rd2 : zn P 2 = ⟨3, 200, 96, 1⟩ := rfl
theorem rd3 : zn P 3 = ⟨4, 296, 4, 248⟩ := rfl
theorem rd4 : zn P 4 = ⟨5, 1288, 96, 16⟩ := rfl
theorem e0 : plan_part_end.f 1 0 1 8 = some 8 := by kernel_rfl
theorem e1 : plan_part_end.f 2 8 24 8 = some 200 := by kernel_rfl
theorem e2 : plan_part_end.f 3 200 96 1 = some 296 := by kernel_rfl
theorem e3 : plan_part_end.f 4 296 4 248 = some 1288 := by kernel_rfl
theorem e4 : plan_part_end.f 5 1288 96 16 = some 2824 := by kernel_rfl
theorem w1 : wrap64 (0 + 1) = 1 := by kernel_rfl
theorem w2 : wrap64 (1 + 1) = 2 := by kernel_rfl
theorem w3 : wrap64 (2 + 1) = 3 := by kernel_rfl
theorem w4 : wrap64 (3 + 1) = 4 := by kernel_rfl
theorem w5 : wrap64 (4 + 1) = 5 := by kernel_rfl
theorem plen : (P.length : Int) = 5 := rfl
theorem zV {n : Int} (h0 : -9223372036854775808 ≤ n) (h1 : n < 9223372036854775808) : wrap64 n = n := by unfold wrap64; omega
theorem What_f (a : Int) (h0 : -9223372036854775808 ≤ a) (h1 : a < 9223372036854775808) : plan_What.f 7 a = some (What a) := by
 unfold plan_What.f
 rw [parts_eq]
 simp only [Option.bind_some, plen]
 simp only [plan_What.l0, plen, rd0, rd1, rd2, rd3, rd4, e0, e1, e2, e3, e4, w1, w2, w3, w4, w5, Option.bind_some]
 simp only [show ((0 : Int) < 5) = True from by simp, show ((1 : Int) < 5) = True from by simp, show ((2 : Int) < 5) = True from by simp, show ((3 : Int) < 5) = True from by simp, show ((4 : Int) < 5) = True from by simp, show ((5 : Int) < 5) = False from by simp,
  show ((0 : Int) ≤ 0) = True from by simp, show ((0 : Int) ≤ 1) = True from by simp, show ((0 : Int) ≤ 2) = True from by simp, show ((0 : Int) ≤ 3) = True from by simp, show ((0 : Int) ≤ 4) = True from by simp,
  show ((8 : Int) = 0) = False from by simp, show ((1 : Int) = 0) = False from by simp, show ((248 : Int) = 0) = False from by simp, show ((16 : Int) = 0) = False from by simp, if_true, if_false]
 unfold What
 by_cases c0 : a < 0
 ·rw [if_pos c0]
  repeat rw [if_neg (by omega)]
 ·rw [if_neg c0]
  rw [if_pos (show a ≥ 0 by omega)]
  by_cases c1 : a < 8
  ·rw [if_pos c1, if_pos c1]
   rw [zV (n := a - 0) (by omega) (by omega), Int.tdiv_eq_ediv_of_nonneg (by omega), zV (by omega) (by omega)]
   congr 2; omega
  ·rw [if_neg c1, if_neg c1, if_pos (show a ≥ 8 by omega)]
   by_cases c2 : a < 200
   ·rw [if_pos c2, if_pos c2]
    rw [zV (n := a - 8) (by omega) (by omega), Int.tdiv_eq_ediv_of_nonneg (by omega), zV (by omega) (by omega)]
   ·rw [if_neg c2, if_neg c2, if_pos (show a ≥ 200 by omega)]
    by_cases c3 : a < 296
    ·rw [if_pos c3, if_pos c3]
     rw [zV (n := a - 200) (by omega) (by omega), Int.tdiv_eq_ediv_of_nonneg (by omega), zV (by omega) (by omega)]
     congr 2; omega
    ·rw [if_neg c3, if_neg c3, if_pos (show a ≥ 296 by omega)]
     by_cases c4 : a < 1288
     ·rw [if_pos c4, if_pos c4]
      rw [zV (n := a - 296) (by omega) (by omega), Int.tdiv_eq_ediv_of_nonneg (by omega), zV (by omega) (by omega)]
     ·rw [if_neg c4, if_neg c4, if_pos (show a ≥ 1288 by omega)]
      by_cases c5 : a < 2824
      ·rw [if_pos c5, if_pos c5]
       rw [zV (n := a - 1288) (by omega) (by omega), Int.tdiv_eq_ediv_of_nonneg (by omega), zV (by omega) (by omega)]
      ·rw [if_neg c5, if_neg c5]
theorem What1 {a : Int} (h0 : 0 ≤ a) (h1 : a < 8) : What a = (1, 0) := by unfold What; rw [if_neg (by omega), if_pos h1]
theorem What2 {a : Int} (h0 : 8 ≤ a) (h1 : a < 200) : What a = (2, (a - 8) / 8) := by unfold What; rw [if_neg (by omega), if_neg (by omega), if_pos h1]
theorem What3 {a : Int} (h0 : 200 ≤ a) (h1 : a < 296) : What a = (3, a - 200) := by unfold What; rw [if_neg (by omega), if_neg (by omega), if_neg (by omega), if_pos h1]
theorem What4 {a : Int} (h0 : 296 ≤ a) (h1 : a < 1288) : What a = (4, (a - 296) / 248) := by unfold What; rw [if_neg (by omega), if_neg (by omega), if_neg (by omega), if_neg (by omega), if_pos h1]
theorem What5 {a : Int} (h0 : 1288 ≤ a) (h1 : a < 2824) : What a = (5, (a - 1288) / 16) := by unfold What; rw [if_neg (by omega), if_neg (by omega), if_neg (by omega), if_neg (by omega), if_neg (by omega), if_pos h1]
def openB (a : Int) : Bool := decide (8 ≤ a ∧ a < 296 ∨ 1288 ≤ a ∧ a < 2824)
theorem Open_f (a : Int) (h0 : -9223372036854775808 ≤ a) (h1 : a < 9223372036854775808) : plan_Open.f 7 a = some (openB a) := by
 unfold plan_Open.f openB
 rw [What_f a h0 h1]
 simp only [Option.bind_some]
 by_cases c0 : a < 0
 ·rw [show What a = (0, 0) by unfold What; rw [if_pos c0]]
  rw [decide_eq_false (by omega)]
  rfl
 by_cases c1 : a < 8
 ·rw [What1 (by omega) c1, decide_eq_false (by omega)]; rfl
 by_cases c2 : a < 200
 ·rw [What2 (by omega) c2, decide_eq_true (by omega)]; rfl
 by_cases c3 : a < 296
 ·rw [What3 (by omega) c3, decide_eq_true (by omega)]; rfl
 by_cases c4 : a < 1288
 ·rw [What4 (by omega) c4, decide_eq_false (by omega)]; rfl
 by_cases c5 : a < 2824
 ·rw [What5 (by omega) c5, decide_eq_true (by omega)]; rfl
 ·rw [show What a = (0, 0) by unfold What; rw [if_neg (by omega), if_neg (by omega), if_neg (by omega), if_neg (by omega), if_neg (by omega), if_neg (by omega)]]
  rw [decide_eq_false (by omega)]
  rfl
theorem size_f : plan_Size.f 7 = some 2824 := by kernel_rfl
theorem of2 : plan_of.f 7 2 = some (2, 8, 24, 8) := by kernel_rfl
theorem of3 : plan_of.f 7 3 = some (3, 200, 96, 1) := by kernel_rfl
theorem of5 : plan_of.f 7 5 = some (5, 1288, 96, 16) := by kernel_rfl
def Owner (k : Int) : Int × Int := if 0 ≤ k ∧ k < 96 then (200 + k, 0) else (0, 1)
def Card (k : Int) : Int × Int := if 0 ≤ k ∧ k < 24 then (8 + 8 * k, 0) else (0, 1)
theorem Owner_f (a : Int) : plan_Owner.f 7 a = some (Owner a) := by
 unfold plan_Owner.f plan_first.f Owner
 rw [of3]
 simp only [Option.bind_some]
 by_cases c0 : a < 0
 ·rw [if_pos c0, if_neg (by omega)]; rfl
 ·rw [if_neg c0]
  by_cases c1 : a ≥ 96
  ·rw [if_pos c1, if_neg (by omega)]; rfl
  ·rw [if_neg c1, if_pos (by omega), Option.bind_some, zV (n := a * 1) (by omega) (by omega), zV (by omega) (by omega), Int.mul_one]
theorem Card_f (a : Int) : plan_Card.f 7 a = some (Card a) := by
 unfold plan_Card.f plan_first.f Card
 rw [of2]
 simp only [Option.bind_some]
 by_cases c0 : a < 0
 ·rw [if_pos c0, if_neg (by omega)]; rfl
 ·rw [if_neg c0]
  by_cases c1 : a ≥ 24
  ·rw [if_pos c1, if_neg (by omega)]; rfl
  ·rw [if_neg c1, if_pos (by omega), Option.bind_some, zV (n := a * 8) (by omega) (by omega), zV (by omega) (by omega), Int.mul_comm a 8]
def Block (k : Int) : Int × Int := if 0 ≤ k ∧ k < 96 then (1288 + 16 * k, 0) else (0, 1)
theorem Block_f (a : Int) : plan_Block.f 7 a = some (Block a) := by
 unfold plan_Block.f plan_first.f Block
 rw [of5]
 simp only [Option.bind_some]
 by_cases c0 : a < 0
 ·rw [if_pos c0, if_neg (by omega)]; rfl
 ·rw [if_neg c0]
  by_cases c1 : a ≥ 96
  ·rw [if_pos c1, if_neg (by omega)]; rfl
  ·rw [if_neg c1, if_pos (by omega), Option.bind_some, zV (n := a * 16) (by omega) (by omega), zV (by omega) (by omega), Int.mul_comm a 16]
end Go.Proofs.YtkbhilhefnahpaaGreat.PlanF
