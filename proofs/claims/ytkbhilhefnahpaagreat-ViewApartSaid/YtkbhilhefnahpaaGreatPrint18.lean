import Derived.Test.YtkbhilhefnahpaaGreatPrint0
import Derived.Test.YtkbhilhefnahpaaGreatPrint2
namespace Go.Proofs.YtkbhilhefnahpaaGreat.Print
open Go.RowKit Go.Proofs.YtkbhilhefnahpaaGreatW.PrintWords Go.Proofs.YtkbhilhefnahpaaGreatW.PrintLast Go.Proofs.YtkbhilhefnahpaaGreatW.PrintMore
attribute [local go_sem] yS yR Zq Zp yH yG Zb Za   -- for this text's walks alone
set_option linter.unusedVariables false
set_option linter.unusedSimpArgs false

attribute [local go_sem high] eqA50
/-! ### escritoirelaw08_same: function 15 -/
def escritoirelaw08_same.l0 : Nat → List (S50) → List (S50) → Int → Option (Bool)
 | 0, _, _, _ => none
 | k + 1, x0, x1, x5 => if x5 < (x0.length : Int) then (if 0 ≤ x5 then (if x5 < (x1.length : Int) then (if (!(((yx x0 x5).f0) == ((yx x1 x5).f0)) || (!(((yx x0 x5).f1) == ((yx x1 x5).f1)))) = true then (some false) else (escritoirelaw08_same.l0 k x0 x1 (wrap64 (x5 + 1)))) else (none)) else (none)) else (some true)
def escritoirelaw08_same.f (k : Nat) (l0 : List (S50)) (l1 : List (S50)) : Option (Bool) := if (l0.length : Int) = (l1.length : Int) then (escritoirelaw08_same.l0 k l0 l1 0) else (some false)
set_option maxHeartbeats 8000000 in
set_option maxRecDepth 100000 in
theorem escritoirelaw08_same.calls (k : Nat) (A0 : Option Addr) (c0 : Nat) (l0 : List (S50)) (A1 : Option Addr) (c1 : Nat) (l1 : List (S50)) (r : Bool) (w : World) (hr0 : Kd.C k50 w A0 l0.length l0) (hc0 : l0.length ≤ c0) (hr1 : Kd.C k50 w A1 l1.length l1) (hc1 : l1.length ≤ c1) (h : escritoirelaw08_same.f k l0 l1 = some r) :
  Calls Tryz.prog 15 #[.slice A0 l0.length c0, .slice A1 l1.length c1] w fun e w' => e = .returned (.bool r) ∧ zL w w' := by
 have hu50 := Tryz.underlying50
 have HR0 := ze.mk hr0
 have HC0 := ze.mk hc0
 clear hr0 hc0
 have HR1 := ze.mk hr1
 have HC1 := ze.mk hc1
 clear hr1 hc1
 have H : (if (l0.length : Int) = (l1.length : Int) then (escritoirelaw08_same.l0 k l0 l1 0) else (some false)) = some r := h
 clear h
 by_cases c3 : (l0.length : Int) = (l1.length : Int)
 ·rw [if_pos c3] at H
  have c3b0 : ((l0.length : Int) == (l1.length : Int)) = true := beq_iff_eq.mpr c3
  have c3b1 : ((l0.length : Int) != (l1.length : Int)) = false := bne_eq_false_iff_eq.mpr c3
  have c3b2 : (l0.length == l1.length) = true := by first | simpa using c3 | (simp at c3 ⊢; omega)
  clear c3
  have H' := ze.mk H
  clear H
  go_enter Tryz.func15, Tryz.ntmps15
  go_wp2
  repeat (go_quiet (fail); try go_wp2)
  go_loopg [5] k (fun kq v5 w' => ∃ (Ja : Int), v5 = .int .i64 Ja ∧ ze (escritoirelaw08_same.l0 kq l0 l1 Ja = some r) ∧ ze (kq ≤ k) ∧ zL w w')
  case atStart => exact ⟨(0), (by first | rfl | (simp; done) | (simp [*]; done) | kernel_rfl), H', ⟨Nat.le_refl _⟩, by repeat (first | exact zL.refl _ | apply zL.step)⟩
  case round =>
   clear H'
   try clear c1
   try clear p2
   try clear c3
   try clear c3b0
   try clear c3b1
   try clear c3b2
   obtain ⟨Ja, rfl, HA, HK1, ⟨m1, rfl⟩⟩ := hrel
   cases gk with
   | zero => exact absurd HA.o (by simp [escritoirelaw08_same.l0])
   | succ k1 =>
    have H := HA.o
    clear HA
    simp only [escritoirelaw08_same.l0] at H
    by_cases c4 : Ja < (l0.length : Int)
    ·rw [if_pos c4] at H
     have c4b0 : decide (Ja < (l0.length : Int)) = true := decide_eq_true c4
     clear c4
     by_cases c5 : 0 ≤ Ja
     ·rw [if_pos c5] at H
      have c5b0 : decide (0 ≤ Ja) = true := decide_eq_true c5
      clear c5
      by_cases c6 : Ja < (l1.length : Int)
      ·rw [if_pos c6] at H
       have c6b0 : decide (Ja < (l1.length : Int)) = true := decide_eq_true c6
       clear c6
       by_cases c7 : (!(((yx l0 Ja).f0) == ((yx l1 Ja).f0)) || (!(((yx l0 Ja).f1) == ((yx l1 Ja).f1)))) = true
       ·rw [if_pos c7] at H
        have c7b0 : (!(((yx l0 Ja).f0) == ((yx l1 Ja).f0)) || (!(((yx l0 Ja).f1) == ((yx l1 Ja).f1)))) = true := c7
        clear c7
        obtain rfl := Option.some.inj H
        have Je : 0 ≤ (Ja : Int) := of_decide_eq_true (by first | (with_reducible assumption) | assumption)
        have Jc : Ja < (l0.length : Int) := of_decide_eq_true (by first | (with_reducible assumption) | assumption)
        obtain ⟨Jm, Jk, Ji, Jh⟩ := at_T50 HR0.o Ja Je Jc
        cases Jk
        replace Je := eq_true Je
        replace Jc := eq_true Jc
        have Jd : 0 ≤ (Ja : Int) := of_decide_eq_true (by first | (with_reducible assumption) | assumption)
        have Jb : Ja < (l1.length : Int) := of_decide_eq_true (by first | (with_reducible assumption) | assumption)
        obtain ⟨Jl, Jj, Jg, Jf⟩ := at_T50 HR1.o Ja Jd Jb
        cases Jj
        replace Jd := eq_true Jd
        replace Jb := eq_true Jb
        go_wp2
        repeat (go_quiet (fail); try go_wp2)
        go_ret
        exact ⟨by first | rfl | (simp; done) | (simp [*]; done), by repeat (first | exact zL.refl _ | apply zL.step)⟩
       ·rw [if_neg c7] at H
        have c7b0 : (!(((yx l0 Ja).f0) == ((yx l1 Ja).f0)) || (!(((yx l0 Ja).f1) == ((yx l1 Ja).f1)))) = false := by simpa using c7
        clear c7
        have H' := ze.mk H
        clear H
        have Je : 0 ≤ (Ja : Int) := of_decide_eq_true (by first | (with_reducible assumption) | assumption)
        have Jc : Ja < (l0.length : Int) := of_decide_eq_true (by first | (with_reducible assumption) | assumption)
        obtain ⟨Jm, Jk, Ji, Jh⟩ := at_T50 HR0.o Ja Je Jc
        cases Jk
        replace Je := eq_true Je
        replace Jc := eq_true Jc
        have Jd : 0 ≤ (Ja : Int) := of_decide_eq_true (by first | (with_reducible assumption) | assumption)
        have Jb : Ja < (l1.length : Int) := of_decide_eq_true (by first | (with_reducible assumption) | assumption)
        obtain ⟨Jl, Jj, Jg, Jf⟩ := at_T50 HR1.o Ja Jd Jb
        cases Jj
        replace Jd := eq_true Jd
        replace Jb := eq_true Jb
        go_wp2
        repeat (go_quiet (fail); try go_wp2)
        go_roundg k1
        case measure => have := HK1.o; omega
        case rel => exact ⟨(wrap64 (Ja + 1)), (by first | rfl | (simp; done) | (simp [*]; done) | kernel_rfl), H', ⟨by have := HK1.o; omega⟩, by repeat (first | exact zL.refl _ | apply zL.step)⟩
      ·rw [if_neg c6] at H
       exact absurd H (by simp)
     ·rw [if_neg c5] at H
      exact absurd H (by simp)
    ·rw [if_neg c4] at H
     have c4b0 : decide (Ja < (l0.length : Int)) = false := decide_eq_false c4
     clear c4
     obtain rfl := Option.some.inj H
     go_wp2
     repeat (go_quiet (fail); try go_wp2)
     go_ret
     exact ⟨by first | rfl | (simp; done) | (simp [*]; done), by repeat (first | exact zL.refl _ | apply zL.step)⟩
 ·rw [if_neg c3] at H
  have c3b0 : ((l0.length : Int) == (l1.length : Int)) = false := beq_eq_false_iff_ne.mpr c3
  have c3b1 : ((l0.length : Int) != (l1.length : Int)) = true := bne_iff_ne.mpr c3
  have c3b2 : (l0.length == l1.length) = false := by first | simpa using c3 | (simp at c3 ⊢; omega)
  obtain rfl := Option.some.inj H
  go_enter Tryz.func15, Tryz.ntmps15
  go_wp2
  repeat (go_quiet (fail); try go_wp2)
  go_ret
  exact ⟨by first | rfl | (simp; done) | (simp [*]; done), by repeat (first | exact zL.refl _ | apply zL.step)⟩

end Go.Proofs.YtkbhilhefnahpaaGreat.Print
