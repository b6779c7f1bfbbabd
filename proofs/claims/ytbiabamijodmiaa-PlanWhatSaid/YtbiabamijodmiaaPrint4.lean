-- Made by wip/tools/wprint.py, a program of this workplace, over the translation. Lean checks it.
import Derived.Test.YtbiabamijodmiaaPrint0
import Derived.Test.YtbiabamijodmiaaPrint1
import Derived.Test.YtbiabamijodmiaaPrint2
import Derived.Test.YtbiabamijodmiaaPrint3
namespace Go.Proofs.Ytbiabamijodmiaa.Print
open Go.RowKit Go.Proofs.YtbiabamijodmiaaW.PrintWords Go.Proofs.YtbiabamijodmiaaW.PrintLast Go.Proofs.YtbiabamijodmiaaW.PrintMore
attribute [local go_sem] max2_int min2_int max_two min_two max_three min_three max_four min_four   -- for this text's walks alone
set_option linter.unusedVariables false
set_option linter.unusedSimpArgs false

attribute [local go_sem high] eqA32
/-! ### escritoirelaw05_PlanCounts: function 5 -/
mutual
def escritoirelaw05_PlanCounts.l0 : Nat → Int → Int → Int → Int → Int → Int → Int → Int → Int → Option (Bool)
  | 0, _, _, _, _, _, _, _, _, _ => none
  | k + 1, x0, x4, x5, x177000, x177001, x177002, x177003, x177004, x177005 => if x5 < 2830 then ((plan_What.f k x5).bind fun bt177 => (if bt177.1 < 0 then (escritoirelaw05_PlanCounts.j1 k x0 x4 x5 bt177.1 bt177.2 true x177000 x177001 x177002 x177003 x177004 x177005) else (escritoirelaw05_PlanCounts.j1 k x0 x4 x5 bt177.1 bt177.2 (decide (bt177.1 > 5)) x177000 x177001 x177002 x177003 x177004 x177005))) else (if (x177000 == 8 && (x177001 == 8 && (x177002 == 192 && (x177003 == 96 && (x177004 == 992 && (x177005 == 1536)))))) = true then (some (x4 == 16)) else (some false))
def escritoirelaw05_PlanCounts.j1 : Nat → Int → Int → Int → Int → Int → Bool → Int → Int → Int → Int → Int → Int → Option (Bool)
  | 0, _, _, _, _, _, _, _, _, _, _, _, _ => none
  | k + 1, x0, x4, x5, x6, x7, x28, x177000, x177001, x177002, x177003, x177004, x177005 => if x28 = true then (some false) else (if x6 = 0 then (if x6 = 5 then (escritoirelaw05_PlanCounts.j2 k x0 x4 x5 x6 (x7 == x0) (wrap64 (x177000 + 1)) x177001 x177002 x177003 x177004 x177005) else (escritoirelaw05_PlanCounts.j2 k x0 x4 x5 x6 false (wrap64 (x177000 + 1)) x177001 x177002 x177003 x177004 x177005)) else (if x6 = 1 then (if x6 = 5 then (escritoirelaw05_PlanCounts.j3 k x0 x4 x5 x6 (x7 == x0) x177000 (wrap64 (x177001 + 1)) x177002 x177003 x177004 x177005) else (escritoirelaw05_PlanCounts.j3 k x0 x4 x5 x6 false x177000 (wrap64 (x177001 + 1)) x177002 x177003 x177004 x177005)) else (if x6 = 2 then (if x6 = 5 then (escritoirelaw05_PlanCounts.j4 k x0 x4 x5 x6 (x7 == x0) x177000 x177001 (wrap64 (x177002 + 1)) x177003 x177004 x177005) else (escritoirelaw05_PlanCounts.j4 k x0 x4 x5 x6 false x177000 x177001 (wrap64 (x177002 + 1)) x177003 x177004 x177005)) else (if x6 = 3 then (if x6 = 5 then (escritoirelaw05_PlanCounts.j5 k x0 x4 x5 x6 (x7 == x0) x177000 x177001 x177002 (wrap64 (x177003 + 1)) x177004 x177005) else (escritoirelaw05_PlanCounts.j5 k x0 x4 x5 x6 false x177000 x177001 x177002 (wrap64 (x177003 + 1)) x177004 x177005)) else (if x6 = 4 then (if x6 = 5 then (escritoirelaw05_PlanCounts.j6 k x0 x4 x5 x6 (x7 == x0) x177000 x177001 x177002 x177003 (wrap64 (x177004 + 1)) x177005) else (escritoirelaw05_PlanCounts.j6 k x0 x4 x5 x6 false x177000 x177001 x177002 x177003 (wrap64 (x177004 + 1)) x177005)) else (if x6 = 5 then (if x7 = x0 then ((plan_Open.f k x5).bind fun t189 => (if (t189 != (x6 == 5)) = true then (some false) else (escritoirelaw05_PlanCounts.l0 k x0 (wrap64 (x4 + 1)) (wrap64 (x5 + 1)) x177000 x177001 x177002 x177003 x177004 (wrap64 (x177005 + 1))))) else ((plan_Open.f k x5).bind fun t190 => (if (t190 != (x6 == 5)) = true then (some false) else (escritoirelaw05_PlanCounts.l0 k x0 x4 (wrap64 (x5 + 1)) x177000 x177001 x177002 x177003 x177004 (wrap64 (x177005 + 1)))))) else (none)))))))
def escritoirelaw05_PlanCounts.j2 : Nat → Int → Int → Int → Int → Bool → Int → Int → Int → Int → Int → Int → Option (Bool)
  | 0, _, _, _, _, _, _, _, _, _, _, _ => none
  | k + 1, x0, x4, x5, x6, x40, x177000, x177001, x177002, x177003, x177004, x177005 => if x40 = true then ((plan_Open.f k x5).bind fun t179 => (if x6 = 2 then (if (t179 != true) = true then (some false) else (escritoirelaw05_PlanCounts.l0 k x0 (wrap64 (x4 + 1)) (wrap64 (x5 + 1)) x177000 x177001 x177002 x177003 x177004 x177005)) else (if x6 = 3 then (if (t179 != true) = true then (some false) else (escritoirelaw05_PlanCounts.l0 k x0 (wrap64 (x4 + 1)) (wrap64 (x5 + 1)) x177000 x177001 x177002 x177003 x177004 x177005)) else (if (t179 != (x6 == 5)) = true then (some false) else (escritoirelaw05_PlanCounts.l0 k x0 (wrap64 (x4 + 1)) (wrap64 (x5 + 1)) x177000 x177001 x177002 x177003 x177004 x177005))))) else ((plan_Open.f k x5).bind fun t180 => (if x6 = 2 then (if (t180 != true) = true then (some false) else (escritoirelaw05_PlanCounts.l0 k x0 x4 (wrap64 (x5 + 1)) x177000 x177001 x177002 x177003 x177004 x177005)) else (if x6 = 3 then (if (t180 != true) = true then (some false) else (escritoirelaw05_PlanCounts.l0 k x0 x4 (wrap64 (x5 + 1)) x177000 x177001 x177002 x177003 x177004 x177005)) else (if (t180 != (x6 == 5)) = true then (some false) else (escritoirelaw05_PlanCounts.l0 k x0 x4 (wrap64 (x5 + 1)) x177000 x177001 x177002 x177003 x177004 x177005)))))
def escritoirelaw05_PlanCounts.j3 : Nat → Int → Int → Int → Int → Bool → Int → Int → Int → Int → Int → Int → Option (Bool)
  | 0, _, _, _, _, _, _, _, _, _, _, _ => none
  | k + 1, x0, x4, x5, x6, x40, x177000, x177001, x177002, x177003, x177004, x177005 => if x40 = true then ((plan_Open.f k x5).bind fun t181 => (if x6 = 2 then (if (t181 != true) = true then (some false) else (escritoirelaw05_PlanCounts.l0 k x0 (wrap64 (x4 + 1)) (wrap64 (x5 + 1)) x177000 x177001 x177002 x177003 x177004 x177005)) else (if x6 = 3 then (if (t181 != true) = true then (some false) else (escritoirelaw05_PlanCounts.l0 k x0 (wrap64 (x4 + 1)) (wrap64 (x5 + 1)) x177000 x177001 x177002 x177003 x177004 x177005)) else (if (t181 != (x6 == 5)) = true then (some false) else (escritoirelaw05_PlanCounts.l0 k x0 (wrap64 (x4 + 1)) (wrap64 (x5 + 1)) x177000 x177001 x177002 x177003 x177004 x177005))))) else ((plan_Open.f k x5).bind fun t182 => (if x6 = 2 then (if (t182 != true) = true then (some false) else (escritoirelaw05_PlanCounts.l0 k x0 x4 (wrap64 (x5 + 1)) x177000 x177001 x177002 x177003 x177004 x177005)) else (if x6 = 3 then (if (t182 != true) = true then (some false) else (escritoirelaw05_PlanCounts.l0 k x0 x4 (wrap64 (x5 + 1)) x177000 x177001 x177002 x177003 x177004 x177005)) else (if (t182 != (x6 == 5)) = true then (some false) else (escritoirelaw05_PlanCounts.l0 k x0 x4 (wrap64 (x5 + 1)) x177000 x177001 x177002 x177003 x177004 x177005)))))
def escritoirelaw05_PlanCounts.j4 : Nat → Int → Int → Int → Int → Bool → Int → Int → Int → Int → Int → Int → Option (Bool)
  | 0, _, _, _, _, _, _, _, _, _, _, _ => none
  | k + 1, x0, x4, x5, x6, x40, x177000, x177001, x177002, x177003, x177004, x177005 => if x40 = true then ((plan_Open.f k x5).bind fun t183 => (if x6 = 2 then (if (t183 != true) = true then (some false) else (escritoirelaw05_PlanCounts.l0 k x0 (wrap64 (x4 + 1)) (wrap64 (x5 + 1)) x177000 x177001 x177002 x177003 x177004 x177005)) else (if x6 = 3 then (if (t183 != true) = true then (some false) else (escritoirelaw05_PlanCounts.l0 k x0 (wrap64 (x4 + 1)) (wrap64 (x5 + 1)) x177000 x177001 x177002 x177003 x177004 x177005)) else (if (t183 != (x6 == 5)) = true then (some false) else (escritoirelaw05_PlanCounts.l0 k x0 (wrap64 (x4 + 1)) (wrap64 (x5 + 1)) x177000 x177001 x177002 x177003 x177004 x177005))))) else ((plan_Open.f k x5).bind fun t184 => (if x6 = 2 then (if (t184 != true) = true then (some false) else (escritoirelaw05_PlanCounts.l0 k x0 x4 (wrap64 (x5 + 1)) x177000 x177001 x177002 x177003 x177004 x177005)) else (if x6 = 3 then (if (t184 != true) = true then (some false) else (escritoirelaw05_PlanCounts.l0 k x0 x4 (wrap64 (x5 + 1)) x177000 x177001 x177002 x177003 x177004 x177005)) else (if (t184 != (x6 == 5)) = true then (some false) else (escritoirelaw05_PlanCounts.l0 k x0 x4 (wrap64 (x5 + 1)) x177000 x177001 x177002 x177003 x177004 x177005)))))
def escritoirelaw05_PlanCounts.j5 : Nat → Int → Int → Int → Int → Bool → Int → Int → Int → Int → Int → Int → Option (Bool)
  | 0, _, _, _, _, _, _, _, _, _, _, _ => none
  | k + 1, x0, x4, x5, x6, x40, x177000, x177001, x177002, x177003, x177004, x177005 => if x40 = true then ((plan_Open.f k x5).bind fun t185 => (if x6 = 2 then (if (t185 != true) = true then (some false) else (escritoirelaw05_PlanCounts.l0 k x0 (wrap64 (x4 + 1)) (wrap64 (x5 + 1)) x177000 x177001 x177002 x177003 x177004 x177005)) else (if x6 = 3 then (if (t185 != true) = true then (some false) else (escritoirelaw05_PlanCounts.l0 k x0 (wrap64 (x4 + 1)) (wrap64 (x5 + 1)) x177000 x177001 x177002 x177003 x177004 x177005)) else (if (t185 != (x6 == 5)) = true then (some false) else (escritoirelaw05_PlanCounts.l0 k x0 (wrap64 (x4 + 1)) (wrap64 (x5 + 1)) x177000 x177001 x177002 x177003 x177004 x177005))))) else ((plan_Open.f k x5).bind fun t186 => (if x6 = 2 then (if (t186 != true) = true then (some false) else (escritoirelaw05_PlanCounts.l0 k x0 x4 (wrap64 (x5 + 1)) x177000 x177001 x177002 x177003 x177004 x177005)) else (if x6 = 3 then (if (t186 != true) = true then (some false) else (escritoirelaw05_PlanCounts.l0 k x0 x4 (wrap64 (x5 + 1)) x177000 x177001 x177002 x177003 x177004 x177005)) else (if (t186 != (x6 == 5)) = true then (some false) else (escritoirelaw05_PlanCounts.l0 k x0 x4 (wrap64 (x5 + 1)) x177000 x177001 x177002 x177003 x177004 x177005)))))
def escritoirelaw05_PlanCounts.j6 : Nat → Int → Int → Int → Int → Bool → Int → Int → Int → Int → Int → Int → Option (Bool)
  | 0, _, _, _, _, _, _, _, _, _, _, _ => none
  | k + 1, x0, x4, x5, x6, x40, x177000, x177001, x177002, x177003, x177004, x177005 => if x40 = true then ((plan_Open.f k x5).bind fun t187 => (if x6 = 2 then (if (t187 != true) = true then (some false) else (escritoirelaw05_PlanCounts.l0 k x0 (wrap64 (x4 + 1)) (wrap64 (x5 + 1)) x177000 x177001 x177002 x177003 x177004 x177005)) else (if x6 = 3 then (if (t187 != true) = true then (some false) else (escritoirelaw05_PlanCounts.l0 k x0 (wrap64 (x4 + 1)) (wrap64 (x5 + 1)) x177000 x177001 x177002 x177003 x177004 x177005)) else (if (t187 != (x6 == 5)) = true then (some false) else (escritoirelaw05_PlanCounts.l0 k x0 (wrap64 (x4 + 1)) (wrap64 (x5 + 1)) x177000 x177001 x177002 x177003 x177004 x177005))))) else ((plan_Open.f k x5).bind fun t188 => (if x6 = 2 then (if (t188 != true) = true then (some false) else (escritoirelaw05_PlanCounts.l0 k x0 x4 (wrap64 (x5 + 1)) x177000 x177001 x177002 x177003 x177004 x177005)) else (if x6 = 3 then (if (t188 != true) = true then (some false) else (escritoirelaw05_PlanCounts.l0 k x0 x4 (wrap64 (x5 + 1)) x177000 x177001 x177002 x177003 x177004 x177005)) else (if (t188 != (x6 == 5)) = true then (some false) else (escritoirelaw05_PlanCounts.l0 k x0 x4 (wrap64 (x5 + 1)) x177000 x177001 x177002 x177003 x177004 x177005)))))
end
def escritoirelaw05_PlanCounts.f (k : Nat) (a0 : Int) : Option (Bool) := (escritoirelaw05_lives.f k).bind fun t175 => (if t175 = true then (escritoirelaw05_PlanCounts.l0 k (wrap64 (Int.tmod (IntKind.u64.wrap (a0)) 96)) 0 (-2) 0 0 0 0 0 0) else (some false))
theorem escritoirelaw05_PlanCounts.mono_l : ∀ k, (∀ y0 y1 y2 y3 y4 y5 y6 y7 y8, LeO (escritoirelaw05_PlanCounts.l0 k y0 y1 y2 y3 y4 y5 y6 y7 y8) (escritoirelaw05_PlanCounts.l0 (k + 1) y0 y1 y2 y3 y4 y5 y6 y7 y8)) ∧ (∀ y0 y1 y2 y3 y4 y5 y6 y7 y8 y9 y10 y11, LeO (escritoirelaw05_PlanCounts.j1 k y0 y1 y2 y3 y4 y5 y6 y7 y8 y9 y10 y11) (escritoirelaw05_PlanCounts.j1 (k + 1) y0 y1 y2 y3 y4 y5 y6 y7 y8 y9 y10 y11)) ∧ (∀ y0 y1 y2 y3 y4 y5 y6 y7 y8 y9 y10, LeO (escritoirelaw05_PlanCounts.j2 k y0 y1 y2 y3 y4 y5 y6 y7 y8 y9 y10) (escritoirelaw05_PlanCounts.j2 (k + 1) y0 y1 y2 y3 y4 y5 y6 y7 y8 y9 y10)) ∧ (∀ y0 y1 y2 y3 y4 y5 y6 y7 y8 y9 y10, LeO (escritoirelaw05_PlanCounts.j3 k y0 y1 y2 y3 y4 y5 y6 y7 y8 y9 y10) (escritoirelaw05_PlanCounts.j3 (k + 1) y0 y1 y2 y3 y4 y5 y6 y7 y8 y9 y10)) ∧ (∀ y0 y1 y2 y3 y4 y5 y6 y7 y8 y9 y10, LeO (escritoirelaw05_PlanCounts.j4 k y0 y1 y2 y3 y4 y5 y6 y7 y8 y9 y10) (escritoirelaw05_PlanCounts.j4 (k + 1) y0 y1 y2 y3 y4 y5 y6 y7 y8 y9 y10)) ∧ (∀ y0 y1 y2 y3 y4 y5 y6 y7 y8 y9 y10, LeO (escritoirelaw05_PlanCounts.j5 k y0 y1 y2 y3 y4 y5 y6 y7 y8 y9 y10) (escritoirelaw05_PlanCounts.j5 (k + 1) y0 y1 y2 y3 y4 y5 y6 y7 y8 y9 y10)) ∧ (∀ y0 y1 y2 y3 y4 y5 y6 y7 y8 y9 y10, LeO (escritoirelaw05_PlanCounts.j6 k y0 y1 y2 y3 y4 y5 y6 y7 y8 y9 y10) (escritoirelaw05_PlanCounts.j6 (k + 1) y0 y1 y2 y3 y4 y5 y6 y7 y8 y9 y10))
  | 0 => ⟨fun _ _ _ _ _ _ _ _ _ r h => by simp [escritoirelaw05_PlanCounts.l0] at h, fun _ _ _ _ _ _ _ _ _ _ _ _ r h => by simp [escritoirelaw05_PlanCounts.j1] at h, fun _ _ _ _ _ _ _ _ _ _ _ r h => by simp [escritoirelaw05_PlanCounts.j2] at h, fun _ _ _ _ _ _ _ _ _ _ _ r h => by simp [escritoirelaw05_PlanCounts.j3] at h, fun _ _ _ _ _ _ _ _ _ _ _ r h => by simp [escritoirelaw05_PlanCounts.j4] at h, fun _ _ _ _ _ _ _ _ _ _ _ r h => by simp [escritoirelaw05_PlanCounts.j5] at h, fun _ _ _ _ _ _ _ _ _ _ _ r h => by simp [escritoirelaw05_PlanCounts.j6] at h⟩
  | k + 1 => by
    obtain ⟨ih0, ih1, ih2, ih3, ih4, ih5, ih6⟩ := escritoirelaw05_PlanCounts.mono_l k
    refine ⟨?_, ?_, ?_, ?_, ?_, ?_, ?_⟩
    · intro y0 y1 y2 y3 y4 y5 y6 y7 y8
      unfold escritoirelaw05_PlanCounts.l0
      repeat' first
      | (with_reducible exact ih0 _ _ _ _ _ _ _ _ _)
      | (with_reducible exact ih1 _ _ _ _ _ _ _ _ _ _ _ _)
      | (with_reducible exact ih2 _ _ _ _ _ _ _ _ _ _ _)
      | (with_reducible exact ih3 _ _ _ _ _ _ _ _ _ _ _)
      | (with_reducible exact ih4 _ _ _ _ _ _ _ _ _ _ _)
      | (with_reducible exact ih5 _ _ _ _ _ _ _ _ _ _ _)
      | (with_reducible exact ih6 _ _ _ _ _ _ _ _ _ _ _)
      | (with_reducible exact escritoirelaw05_lives.mono _)
      | (with_reducible exact plan_Open.mono _ _)
      | (with_reducible exact plan_What.mono _ _)
      | (with_reducible exact LeO.refl _)
      | (with_reducible exact LeO.none _)
      | (with_reducible refine LeO.ite ?_ ?_)
      | (with_reducible refine LeO.bind ?_ (fun _ => ?_))
      | exact ih0 _ _ _ _ _ _ _ _ _
      | exact ih1 _ _ _ _ _ _ _ _ _ _ _ _
      | exact ih2 _ _ _ _ _ _ _ _ _ _ _
      | exact ih3 _ _ _ _ _ _ _ _ _ _ _
      | exact ih4 _ _ _ _ _ _ _ _ _ _ _
      | exact ih5 _ _ _ _ _ _ _ _ _ _ _
      | exact ih6 _ _ _ _ _ _ _ _ _ _ _
      | exact escritoirelaw05_lives.mono _
      | exact plan_Open.mono _ _
      | exact plan_What.mono _ _
      | exact LeO.none _
      | refine LeO.ite ?_ ?_
      | refine LeO.bind ?_ (fun _ => ?_)
    · intro y0 y1 y2 y3 y4 y5 y6 y7 y8 y9 y10 y11
      unfold escritoirelaw05_PlanCounts.j1
      repeat' first
      | (with_reducible exact ih0 _ _ _ _ _ _ _ _ _)
      | (with_reducible exact ih1 _ _ _ _ _ _ _ _ _ _ _ _)
      | (with_reducible exact ih2 _ _ _ _ _ _ _ _ _ _ _)
      | (with_reducible exact ih3 _ _ _ _ _ _ _ _ _ _ _)
      | (with_reducible exact ih4 _ _ _ _ _ _ _ _ _ _ _)
      | (with_reducible exact ih5 _ _ _ _ _ _ _ _ _ _ _)
      | (with_reducible exact ih6 _ _ _ _ _ _ _ _ _ _ _)
      | (with_reducible exact escritoirelaw05_lives.mono _)
      | (with_reducible exact plan_Open.mono _ _)
      | (with_reducible exact plan_What.mono _ _)
      | (with_reducible exact LeO.refl _)
      | (with_reducible exact LeO.none _)
      | (with_reducible refine LeO.ite ?_ ?_)
      | (with_reducible refine LeO.bind ?_ (fun _ => ?_))
      | exact ih0 _ _ _ _ _ _ _ _ _
      | exact ih1 _ _ _ _ _ _ _ _ _ _ _ _
      | exact ih2 _ _ _ _ _ _ _ _ _ _ _
      | exact ih3 _ _ _ _ _ _ _ _ _ _ _
      | exact ih4 _ _ _ _ _ _ _ _ _ _ _
      | exact ih5 _ _ _ _ _ _ _ _ _ _ _
      | exact ih6 _ _ _ _ _ _ _ _ _ _ _
      | exact escritoirelaw05_lives.mono _
      | exact plan_Open.mono _ _
      | exact plan_What.mono _ _
      | exact LeO.none _
      | refine LeO.ite ?_ ?_
      | refine LeO.bind ?_ (fun _ => ?_)
    · intro y0 y1 y2 y3 y4 y5 y6 y7 y8 y9 y10
      unfold escritoirelaw05_PlanCounts.j2
      repeat' first
      | (with_reducible exact ih0 _ _ _ _ _ _ _ _ _)
      | (with_reducible exact ih1 _ _ _ _ _ _ _ _ _ _ _ _)
      | (with_reducible exact ih2 _ _ _ _ _ _ _ _ _ _ _)
      | (with_reducible exact ih3 _ _ _ _ _ _ _ _ _ _ _)
      | (with_reducible exact ih4 _ _ _ _ _ _ _ _ _ _ _)
      | (with_reducible exact ih5 _ _ _ _ _ _ _ _ _ _ _)
      | (with_reducible exact ih6 _ _ _ _ _ _ _ _ _ _ _)
      | (with_reducible exact escritoirelaw05_lives.mono _)
      | (with_reducible exact plan_Open.mono _ _)
      | (with_reducible exact plan_What.mono _ _)
      | (with_reducible exact LeO.refl _)
      | (with_reducible exact LeO.none _)
      | (with_reducible refine LeO.ite ?_ ?_)
      | (with_reducible refine LeO.bind ?_ (fun _ => ?_))
      | exact ih0 _ _ _ _ _ _ _ _ _
      | exact ih1 _ _ _ _ _ _ _ _ _ _ _ _
      | exact ih2 _ _ _ _ _ _ _ _ _ _ _
      | exact ih3 _ _ _ _ _ _ _ _ _ _ _
      | exact ih4 _ _ _ _ _ _ _ _ _ _ _
      | exact ih5 _ _ _ _ _ _ _ _ _ _ _
      | exact ih6 _ _ _ _ _ _ _ _ _ _ _
      | exact escritoirelaw05_lives.mono _
      | exact plan_Open.mono _ _
      | exact plan_What.mono _ _
      | exact LeO.none _
      | refine LeO.ite ?_ ?_
      | refine LeO.bind ?_ (fun _ => ?_)
    · intro y0 y1 y2 y3 y4 y5 y6 y7 y8 y9 y10
      unfold escritoirelaw05_PlanCounts.j3
      repeat' first
      | (with_reducible exact ih0 _ _ _ _ _ _ _ _ _)
      | (with_reducible exact ih1 _ _ _ _ _ _ _ _ _ _ _ _)
      | (with_reducible exact ih2 _ _ _ _ _ _ _ _ _ _ _)
      | (with_reducible exact ih3 _ _ _ _ _ _ _ _ _ _ _)
      | (with_reducible exact ih4 _ _ _ _ _ _ _ _ _ _ _)
      | (with_reducible exact ih5 _ _ _ _ _ _ _ _ _ _ _)
      | (with_reducible exact ih6 _ _ _ _ _ _ _ _ _ _ _)
      | (with_reducible exact escritoirelaw05_lives.mono _)
      | (with_reducible exact plan_Open.mono _ _)
      | (with_reducible exact plan_What.mono _ _)
      | (with_reducible exact LeO.refl _)
      | (with_reducible exact LeO.none _)
      | (with_reducible refine LeO.ite ?_ ?_)
      | (with_reducible refine LeO.bind ?_ (fun _ => ?_))
      | exact ih0 _ _ _ _ _ _ _ _ _
      | exact ih1 _ _ _ _ _ _ _ _ _ _ _ _
      | exact ih2 _ _ _ _ _ _ _ _ _ _ _
      | exact ih3 _ _ _ _ _ _ _ _ _ _ _
      | exact ih4 _ _ _ _ _ _ _ _ _ _ _
      | exact ih5 _ _ _ _ _ _ _ _ _ _ _
      | exact ih6 _ _ _ _ _ _ _ _ _ _ _
      | exact escritoirelaw05_lives.mono _
      | exact plan_Open.mono _ _
      | exact plan_What.mono _ _
      | exact LeO.none _
      | refine LeO.ite ?_ ?_
      | refine LeO.bind ?_ (fun _ => ?_)
    · intro y0 y1 y2 y3 y4 y5 y6 y7 y8 y9 y10
      unfold escritoirelaw05_PlanCounts.j4
      repeat' first
      | (with_reducible exact ih0 _ _ _ _ _ _ _ _ _)
      | (with_reducible exact ih1 _ _ _ _ _ _ _ _ _ _ _ _)
      | (with_reducible exact ih2 _ _ _ _ _ _ _ _ _ _ _)
      | (with_reducible exact ih3 _ _ _ _ _ _ _ _ _ _ _)
      | (with_reducible exact ih4 _ _ _ _ _ _ _ _ _ _ _)
      | (with_reducible exact ih5 _ _ _ _ _ _ _ _ _ _ _)
      | (with_reducible exact ih6 _ _ _ _ _ _ _ _ _ _ _)
      | (with_reducible exact escritoirelaw05_lives.mono _)
      | (with_reducible exact plan_Open.mono _ _)
      | (with_reducible exact plan_What.mono _ _)
      | (with_reducible exact LeO.refl _)
      | (with_reducible exact LeO.none _)
      | (with_reducible refine LeO.ite ?_ ?_)
      | (with_reducible refine LeO.bind ?_ (fun _ => ?_))
      | exact ih0 _ _ _ _ _ _ _ _ _
      | exact ih1 _ _ _ _ _ _ _ _ _ _ _ _
      | exact ih2 _ _ _ _ _ _ _ _ _ _ _
      | exact ih3 _ _ _ _ _ _ _ _ _ _ _
      | exact ih4 _ _ _ _ _ _ _ _ _ _ _
      | exact ih5 _ _ _ _ _ _ _ _ _ _ _
      | exact ih6 _ _ _ _ _ _ _ _ _ _ _
      | exact escritoirelaw05_lives.mono _
      | exact plan_Open.mono _ _
      | exact plan_What.mono _ _
      | exact LeO.none _
      | refine LeO.ite ?_ ?_
      | refine LeO.bind ?_ (fun _ => ?_)
    · intro y0 y1 y2 y3 y4 y5 y6 y7 y8 y9 y10
      unfold escritoirelaw05_PlanCounts.j5
      repeat' first
      | (with_reducible exact ih0 _ _ _ _ _ _ _ _ _)
      | (with_reducible exact ih1 _ _ _ _ _ _ _ _ _ _ _ _)
      | (with_reducible exact ih2 _ _ _ _ _ _ _ _ _ _ _)
      | (with_reducible exact ih3 _ _ _ _ _ _ _ _ _ _ _)
      | (with_reducible exact ih4 _ _ _ _ _ _ _ _ _ _ _)
      | (with_reducible exact ih5 _ _ _ _ _ _ _ _ _ _ _)
      | (with_reducible exact ih6 _ _ _ _ _ _ _ _ _ _ _)
      | (with_reducible exact escritoirelaw05_lives.mono _)
      | (with_reducible exact plan_Open.mono _ _)
      | (with_reducible exact plan_What.mono _ _)
      | (with_reducible exact LeO.refl _)
      | (with_reducible exact LeO.none _)
      | (with_reducible refine LeO.ite ?_ ?_)
      | (with_reducible refine LeO.bind ?_ (fun _ => ?_))
      | exact ih0 _ _ _ _ _ _ _ _ _
      | exact ih1 _ _ _ _ _ _ _ _ _ _ _ _
      | exact ih2 _ _ _ _ _ _ _ _ _ _ _
      | exact ih3 _ _ _ _ _ _ _ _ _ _ _
      | exact ih4 _ _ _ _ _ _ _ _ _ _ _
      | exact ih5 _ _ _ _ _ _ _ _ _ _ _
      | exact ih6 _ _ _ _ _ _ _ _ _ _ _
      | exact escritoirelaw05_lives.mono _
      | exact plan_Open.mono _ _
      | exact plan_What.mono _ _
      | exact LeO.none _
      | refine LeO.ite ?_ ?_
      | refine LeO.bind ?_ (fun _ => ?_)
    · intro y0 y1 y2 y3 y4 y5 y6 y7 y8 y9 y10
      unfold escritoirelaw05_PlanCounts.j6
      repeat' first
      | (with_reducible exact ih0 _ _ _ _ _ _ _ _ _)
      | (with_reducible exact ih1 _ _ _ _ _ _ _ _ _ _ _ _)
      | (with_reducible exact ih2 _ _ _ _ _ _ _ _ _ _ _)
      | (with_reducible exact ih3 _ _ _ _ _ _ _ _ _ _ _)
      | (with_reducible exact ih4 _ _ _ _ _ _ _ _ _ _ _)
      | (with_reducible exact ih5 _ _ _ _ _ _ _ _ _ _ _)
      | (with_reducible exact ih6 _ _ _ _ _ _ _ _ _ _ _)
      | (with_reducible exact escritoirelaw05_lives.mono _)
      | (with_reducible exact plan_Open.mono _ _)
      | (with_reducible exact plan_What.mono _ _)
      | (with_reducible exact LeO.refl _)
      | (with_reducible exact LeO.none _)
      | (with_reducible refine LeO.ite ?_ ?_)
      | (with_reducible refine LeO.bind ?_ (fun _ => ?_))
      | exact ih0 _ _ _ _ _ _ _ _ _
      | exact ih1 _ _ _ _ _ _ _ _ _ _ _ _
      | exact ih2 _ _ _ _ _ _ _ _ _ _ _
      | exact ih3 _ _ _ _ _ _ _ _ _ _ _
      | exact ih4 _ _ _ _ _ _ _ _ _ _ _
      | exact ih5 _ _ _ _ _ _ _ _ _ _ _
      | exact ih6 _ _ _ _ _ _ _ _ _ _ _
      | exact escritoirelaw05_lives.mono _
      | exact plan_Open.mono _ _
      | exact plan_What.mono _ _
      | exact LeO.none _
      | refine LeO.ite ?_ ?_
      | refine LeO.bind ?_ (fun _ => ?_)
theorem escritoirelaw05_PlanCounts.mono : ∀ a0 k, LeO (escritoirelaw05_PlanCounts.f k a0) (escritoirelaw05_PlanCounts.f (k + 1) a0) := by
  intro a0 k
  obtain ⟨ih0, ih1, ih2, ih3, ih4, ih5, ih6⟩ := escritoirelaw05_PlanCounts.mono_l k
  unfold escritoirelaw05_PlanCounts.f
  repeat' first
      | (with_reducible exact ih0 _ _ _ _ _ _ _ _ _)
      | (with_reducible exact ih1 _ _ _ _ _ _ _ _ _ _ _ _)
      | (with_reducible exact ih2 _ _ _ _ _ _ _ _ _ _ _)
      | (with_reducible exact ih3 _ _ _ _ _ _ _ _ _ _ _)
      | (with_reducible exact ih4 _ _ _ _ _ _ _ _ _ _ _)
      | (with_reducible exact ih5 _ _ _ _ _ _ _ _ _ _ _)
      | (with_reducible exact ih6 _ _ _ _ _ _ _ _ _ _ _)
      | (with_reducible exact escritoirelaw05_lives.mono _)
      | (with_reducible exact plan_Open.mono _ _)
      | (with_reducible exact plan_What.mono _ _)
      | (with_reducible exact LeO.refl _)
      | (with_reducible exact LeO.none _)
      | (with_reducible refine LeO.ite ?_ ?_)
      | (with_reducible refine LeO.bind ?_ (fun _ => ?_))
      | exact ih0 _ _ _ _ _ _ _ _ _
      | exact ih1 _ _ _ _ _ _ _ _ _ _ _ _
      | exact ih2 _ _ _ _ _ _ _ _ _ _ _
      | exact ih3 _ _ _ _ _ _ _ _ _ _ _
      | exact ih4 _ _ _ _ _ _ _ _ _ _ _
      | exact ih5 _ _ _ _ _ _ _ _ _ _ _
      | exact ih6 _ _ _ _ _ _ _ _ _ _ _
      | exact escritoirelaw05_lives.mono _
      | exact plan_Open.mono _ _
      | exact plan_What.mono _ _
      | exact LeO.none _
      | refine LeO.ite ?_ ?_
      | refine LeO.bind ?_ (fun _ => ?_)
set_option maxHeartbeats 8000000 in
set_option maxRecDepth 100000 in
theorem escritoirelaw05_PlanCounts.calls (k : Nat) (a0 : Int) (r : Bool) (w : World) (h : escritoirelaw05_PlanCounts.f k a0 = some r) :
    Calls Try.prog 5 #[.int .i64 a0] w fun e w' => e = .returned (.bool r) ∧ Below w.heap.size w w' := by
  have hu32 := Try.underlying32
  have HB := Aside0.mk (Below.refl w.heap.size w)
  have H : ((escritoirelaw05_lives.f k).bind fun t175 => (if t175 = true then (escritoirelaw05_PlanCounts.l0 k (wrap64 (Int.tmod (IntKind.u64.wrap (a0)) 96)) 0 (-2) 0 0 0 0 0 0) else (some false))) = some r := h
  clear h
  replace H := Option.bind_eq_some_iff.mp H
  obtain ⟨t175, A20, H⟩ := H
  replace H : (if t175 = true then (escritoirelaw05_PlanCounts.l0 k (wrap64 (Int.tmod (IntKind.u64.wrap (a0)) 96)) 0 (-2) 0 0 0 0 0 0) else (some false)) = some r := H
  have A2 := Aside0.mk A20
  clear A20
  by_cases c3 : t175 = true
  · subst c3
    have H1 : (escritoirelaw05_PlanCounts.l0 k (wrap64 (Int.tmod (IntKind.u64.wrap (a0)) 96)) 0 (-2) 0 0 0 0 0 0) = some r := by rw [if_pos rfl] at H; exact H
    clear H
    have H := H1
    clear H1
    have H' := Aside0.mk H
    clear H
    go_enter Try.func5, Try.ntmps5
    go_wp2_with (first | ((with_reducible refine gate_callee (f := 8) rfl ?_); refine goesL_ (some 8) rfl rfl Try.func8 (by kernel_rfl) rfl #[] rfl (by (try simp only [List.map_toArray, List.map_cons, List.map_nil]); first | done | rfl | (simp only [List.length_drop, List.length_take]; rfl)) ?_; (with_reducible refine (escritoirelaw05_lives.calls k  true _ A2.out).mono ?_); rintro e w4 ⟨rfl, hb⟩; refine ⟨_, rfl, ?_⟩; have n0_ := Aside0.mk (below_step (by repeat (first | (with_reducible first | exact HB.out | apply below_alloc | apply pw_below_drewN | apply below_drew1) | exact HB.out)) hb); clear HB; have HB := n0_; clear n0_; (try clear hb); (try clear hb2); (try clear hk); (try clear hi)) | ((with_reducible refine gate_dst (N := 3) rfl ?_); refine box_event ?hg (N := 3) ?hd (cs := #[.int .i64 0, .int .i64 0, .int .i64 0, .int .i64 0, .int .i64 0, .int .i64 0]) (t := 32) ?hr ?_; (case hd => rfl); (case hg => rfl); (case hr => first | (go_simp; done) | (go_simp; rfl)); intro gb176 hg w5 hbox hb; have n0_ := Aside0.mk (below_step (by repeat (first | (with_reducible first | exact HB.out | apply below_alloc | apply pw_below_drewN | apply below_drew1) | exact HB.out)) hb); have n1_ := Aside0.mk (hbox); have n2_ := Aside0.mk ((by rw [hg]; exact (below_size (by repeat (first | (with_reducible first | exact HB.out | apply below_alloc | apply pw_below_drewN | apply below_drew1) | exact HB.out))) : w.heap.size ≤ gb176)); have n3_ := Aside0.mk ((by rw [hg]; exact (below_size (by repeat (first | (with_reducible first | exact HB.out | apply below_alloc | apply pw_below_drewN | apply below_drew1) | exact HB.out))) : w.heap.size ≤ gb176)); clear HB; have HB := n0_; have BK176 := n1_; have GW176 := n2_; have GE176 := n3_; clear n0_ n1_ n2_ n3_; clear hb hbox hg))
    go_loopg [4, 5] k (fun kq v4 v5 w' => ∃ (x4_1 : Int) (x5_1 : Int) (x177000_1 : Int) (x177001_1 : Int) (x177002_1 : Int) (x177003_1 : Int) (x177004_1 : Int) (x177005_1 : Int), v4 = .int .i64 x4_1 ∧ v5 = .int .i64 x5_1 ∧ Aside0 (escritoirelaw05_PlanCounts.l0 kq (wrap64 (Int.tmod (IntKind.u64.wrap (a0)) 96)) x4_1 x5_1 x177000_1 x177001_1 x177002_1 x177003_1 x177004_1 x177005_1 = some r) ∧ Aside0 (kq ≤ k) ∧ Aside0 (w'.heap[gb176]? = some (.cells #[.int .i64 x177000_1, .int .i64 x177001_1, .int .i64 x177002_1, .int .i64 x177003_1, .int .i64 x177004_1, .int .i64 x177005_1] 32 (0, 0))) ∧ Aside0 (Below w.heap.size w w'))
    case atStart => exact ⟨(0), ((-2)), (0), (0), (0), (0), (0), (0), (by first | rfl | (simp; done) | (simp [*]; done) | kernel_rfl), (by first | rfl | (simp; done) | (simp [*]; done) | kernel_rfl), H', ⟨Nat.le_refl _⟩, ⟨by (with_reducible repeat (first | refine blk_drewN ?_ _ | refine blk_drew ?_ | refine blk_alloc ?_ _)); exact BK176.out⟩, ⟨by repeat (first | (with_reducible first | exact HB.out | apply below_alloc | apply pw_below_drewN | apply below_drew1 | refine below_set ?_ GE176.out) | exact HB.out)⟩⟩
    case round =>
      clear H'
      try clear p2
      try clear c3
      try clear c5
      obtain ⟨x4_1, x5_1, x177000_1, x177001_1, x177002_1, x177003_1, x177004_1, x177005_1, rfl, rfl, HA, HK1, BK176, HB⟩ := hrel
      cases gk with
      | zero => exact absurd HA.out (by simp [escritoirelaw05_PlanCounts.l0])
      | succ k1 =>
        have H := HA.out
        clear HA
        simp only [escritoirelaw05_PlanCounts.l0] at H
        by_cases c6 : x5_1 < 2830
        · rw [if_pos c6] at H
          have c6b0 : decide (x5_1 < 2830) = true := decide_eq_true c6
          clear c6
          replace H := Option.bind_eq_some_iff.mp H
          obtain ⟨⟨t177, t178⟩, A70, H⟩ := H
          replace H : (if t177 < 0 then (escritoirelaw05_PlanCounts.j1 k1 (wrap64 (Int.tmod (IntKind.u64.wrap (a0)) 96)) x4_1 x5_1 t177 t178 true x177000_1 x177001_1 x177002_1 x177003_1 x177004_1 x177005_1) else (escritoirelaw05_PlanCounts.j1 k1 (wrap64 (Int.tmod (IntKind.u64.wrap (a0)) 96)) x4_1 x5_1 t177 t178 (decide (t177 > 5)) x177000_1 x177001_1 x177002_1 x177003_1 x177004_1 x177005_1)) = some r := H
          have A7 := Aside0.mk A70
          clear A70
          have HC8 := Aside0.mk H
          clear H
          go_upto_region 10 with (first | ((with_reducible refine gate_callee (f := 9) rfl ?_); refine goesL_ (some 20) rfl rfl Try.func9 (by kernel_rfl) rfl #[.int .i64 x5_1] rfl (by (try simp only [List.map_toArray, List.map_cons, List.map_nil]); first | done | rfl | (simp only [List.length_drop, List.length_take]; rfl)) ?_; (with_reducible refine (plan_What.calls k1 x5_1 t177 t178 _ A7.out).mono ?_); rintro e w9 ⟨rfl, hb⟩; refine ⟨_, rfl, ?_⟩; have n0_ := Aside0.mk (blk_below (g := gb176) (o := .cells #[.int .i64 x177000_1, .int .i64 x177001_1, .int .i64 x177002_1, .int .i64 x177003_1, .int .i64 x177004_1, .int .i64 x177005_1] 32 (0, 0)) (by (with_reducible repeat (first | refine blk_drewN ?_ _ | refine blk_drew ?_ | refine blk_alloc ?_ _)); exact BK176.out) hb); have n1_ := Aside0.mk (below_step (by repeat (first | (with_reducible first | exact HB.out | apply below_alloc | apply pw_below_drewN | apply below_drew1 | refine below_set ?_ GE176.out) | exact HB.out)) hb); clear BK176; clear HB; have BK176 := n0_; have HB := n1_; clear n0_ n1_; (try clear hb); (try clear hb2); (try clear hk); (try clear hi)))
          (try simp only [Act.put, List.setIfInBounds_toArray, List.set_cons_zero, List.set_cons_succ])
          go_cut [28] (fun v28 wc => ∃ (kq : Nat) (x28_7 : Bool), v28 = .bool x28_7 ∧ Aside0 (escritoirelaw05_PlanCounts.j1 kq (wrap64 (Int.tmod (IntKind.u64.wrap (a0)) 96)) x4_1 x5_1 t177 t178 x28_7 x177000_1 x177001_1 x177002_1 x177003_1 x177004_1 x177005_1 = some r) ∧ Aside0 (kq ≤ k1) ∧ Aside0 (wc.heap[gb176]? = some (.cells #[.int .i64 x177000_1, .int .i64 x177001_1, .int .i64 x177002_1, .int .i64 x177003_1, .int .i64 x177004_1, .int .i64 x177005_1] 32 (0, 0))) ∧ Aside0 (Below w.heap.size w wc))
          case first =>
            have H := HC8.out
            clear HC8
            by_cases c10 : t177 < 0
            · rw [if_pos c10] at H
              have c10b0 : decide (t177 < 0) = true := decide_eq_true c10
              clear c10
              (first | rw [c10b0] | (simp only [i64_w, i32_w]; rw [c10b0]) | skip)
              have H' := Aside0.mk H
              clear H
              go_wp2
              go_meet
              case rel => exact ⟨_, (true), (by first | rfl | (simp; done) | (simp [*]; done) | kernel_rfl), H', ⟨by have := HK1.out; first | omega | exact Nat.le_refl _⟩, ⟨by (with_reducible repeat (first | refine blk_drewN ?_ _ | refine blk_drew ?_ | refine blk_alloc ?_ _)); exact BK176.out⟩, ⟨by repeat (first | (with_reducible first | exact HB.out | apply below_alloc | apply pw_below_drewN | apply below_drew1 | refine below_set ?_ GE176.out) | exact HB.out)⟩⟩
            · rw [if_neg c10] at H
              have c10b0 : decide (t177 < 0) = false := decide_eq_false c10
              clear c10
              (first | rw [c10b0] | (simp only [i64_w, i32_w]; rw [c10b0]) | skip)
              have H' := Aside0.mk H
              clear H
              go_wp2
              go_meet
              case rel => exact ⟨_, (decide (t177 > 5)), (by first | rfl | (simp; done) | (simp [*]; done) | kernel_rfl), H', ⟨by have := HK1.out; first | omega | exact Nat.le_refl _⟩, ⟨by (with_reducible repeat (first | refine blk_drewN ?_ _ | refine blk_drew ?_ | refine blk_alloc ?_ _)); exact BK176.out⟩, ⟨by repeat (first | (with_reducible first | exact HB.out | apply below_alloc | apply pw_below_drewN | apply below_drew1 | refine below_set ?_ GE176.out) | exact HB.out)⟩⟩
          case rest =>
            clear HC8
            try clear c1
            try clear p2
            try clear c3
            try clear c5
            try clear c6
            try clear c6b0
            try clear p6
            try clear c8
            try clear c9
            try clear c10
            try clear c10b0
            try clear p2
            obtain ⟨kq, x28_7, rfl, HA, HJ7, BK176, HB⟩ := hcut
            cases kq with
            | zero => exact absurd HA.out (by simp [escritoirelaw05_PlanCounts.j1])
            | succ kj7 =>
              have H := HA.out
              clear HA
              simp only [escritoirelaw05_PlanCounts.j1] at H
              by_cases c11 : x28_7 = true
              · subst c11
                have H1 : (some false) = some r := by rw [if_pos rfl] at H; exact H
                clear H
                have H := H1
                clear H1
                obtain rfl := Option.some.inj H
                go_wp2
                go_ret
                exact ⟨by first | rfl | (simp [errW_none, errW_some] <;> rfl) | (simp [*, errW_none, errW_some] <;> rfl), by repeat (first | (with_reducible first | exact HB.out | apply below_alloc | apply pw_below_drewN | apply below_drew1 | refine below_set ?_ GE176.out) | exact HB.out)⟩
              · replace c11 := Bool.eq_false_iff.mpr c11
                subst c11
                have H1 : (if t177 = 0 then (if t177 = 5 then (escritoirelaw05_PlanCounts.j2 kj7 (wrap64 (Int.tmod (IntKind.u64.wrap (a0)) 96)) x4_1 x5_1 t177 (t178 == (wrap64 (Int.tmod (IntKind.u64.wrap (a0)) 96))) (wrap64 (x177000_1 + 1)) x177001_1 x177002_1 x177003_1 x177004_1 x177005_1) else (escritoirelaw05_PlanCounts.j2 kj7 (wrap64 (Int.tmod (IntKind.u64.wrap (a0)) 96)) x4_1 x5_1 t177 false (wrap64 (x177000_1 + 1)) x177001_1 x177002_1 x177003_1 x177004_1 x177005_1)) else (if t177 = 1 then (if t177 = 5 then (escritoirelaw05_PlanCounts.j3 kj7 (wrap64 (Int.tmod (IntKind.u64.wrap (a0)) 96)) x4_1 x5_1 t177 (t178 == (wrap64 (Int.tmod (IntKind.u64.wrap (a0)) 96))) x177000_1 (wrap64 (x177001_1 + 1)) x177002_1 x177003_1 x177004_1 x177005_1) else (escritoirelaw05_PlanCounts.j3 kj7 (wrap64 (Int.tmod (IntKind.u64.wrap (a0)) 96)) x4_1 x5_1 t177 false x177000_1 (wrap64 (x177001_1 + 1)) x177002_1 x177003_1 x177004_1 x177005_1)) else (if t177 = 2 then (if t177 = 5 then (escritoirelaw05_PlanCounts.j4 kj7 (wrap64 (Int.tmod (IntKind.u64.wrap (a0)) 96)) x4_1 x5_1 t177 (t178 == (wrap64 (Int.tmod (IntKind.u64.wrap (a0)) 96))) x177000_1 x177001_1 (wrap64 (x177002_1 + 1)) x177003_1 x177004_1 x177005_1) else (escritoirelaw05_PlanCounts.j4 kj7 (wrap64 (Int.tmod (IntKind.u64.wrap (a0)) 96)) x4_1 x5_1 t177 false x177000_1 x177001_1 (wrap64 (x177002_1 + 1)) x177003_1 x177004_1 x177005_1)) else (if t177 = 3 then (if t177 = 5 then (escritoirelaw05_PlanCounts.j5 kj7 (wrap64 (Int.tmod (IntKind.u64.wrap (a0)) 96)) x4_1 x5_1 t177 (t178 == (wrap64 (Int.tmod (IntKind.u64.wrap (a0)) 96))) x177000_1 x177001_1 x177002_1 (wrap64 (x177003_1 + 1)) x177004_1 x177005_1) else (escritoirelaw05_PlanCounts.j5 kj7 (wrap64 (Int.tmod (IntKind.u64.wrap (a0)) 96)) x4_1 x5_1 t177 false x177000_1 x177001_1 x177002_1 (wrap64 (x177003_1 + 1)) x177004_1 x177005_1)) else (if t177 = 4 then (if t177 = 5 then (escritoirelaw05_PlanCounts.j6 kj7 (wrap64 (Int.tmod (IntKind.u64.wrap (a0)) 96)) x4_1 x5_1 t177 (t178 == (wrap64 (Int.tmod (IntKind.u64.wrap (a0)) 96))) x177000_1 x177001_1 x177002_1 x177003_1 (wrap64 (x177004_1 + 1)) x177005_1) else (escritoirelaw05_PlanCounts.j6 kj7 (wrap64 (Int.tmod (IntKind.u64.wrap (a0)) 96)) x4_1 x5_1 t177 false x177000_1 x177001_1 x177002_1 x177003_1 (wrap64 (x177004_1 + 1)) x177005_1)) else (if t177 = 5 then (if t178 = (wrap64 (Int.tmod (IntKind.u64.wrap (a0)) 96)) then ((plan_Open.f kj7 x5_1).bind fun t189 => (if (t189 != (t177 == 5)) = true then (some false) else (escritoirelaw05_PlanCounts.l0 kj7 (wrap64 (Int.tmod (IntKind.u64.wrap (a0)) 96)) (wrap64 (x4_1 + 1)) (wrap64 (x5_1 + 1)) x177000_1 x177001_1 x177002_1 x177003_1 x177004_1 (wrap64 (x177005_1 + 1))))) else ((plan_Open.f kj7 x5_1).bind fun t190 => (if (t190 != (t177 == 5)) = true then (some false) else (escritoirelaw05_PlanCounts.l0 kj7 (wrap64 (Int.tmod (IntKind.u64.wrap (a0)) 96)) x4_1 (wrap64 (x5_1 + 1)) x177000_1 x177001_1 x177002_1 x177003_1 x177004_1 (wrap64 (x177005_1 + 1)))))) else (none))))))) = some r := by rw [if_neg (show ¬ (false = true) by decide)] at H; exact H
                clear H
                have H := H1
                clear H1
                by_cases c12 : t177 = 0
                · subst c12
                  have H1 : (if 0 = 5 then (escritoirelaw05_PlanCounts.j2 kj7 (wrap64 (Int.tmod (IntKind.u64.wrap (a0)) 96)) x4_1 x5_1 0 (t178 == (wrap64 (Int.tmod (IntKind.u64.wrap (a0)) 96))) (wrap64 (x177000_1 + 1)) x177001_1 x177002_1 x177003_1 x177004_1 x177005_1) else (escritoirelaw05_PlanCounts.j2 kj7 (wrap64 (Int.tmod (IntKind.u64.wrap (a0)) 96)) x4_1 x5_1 0 false (wrap64 (x177000_1 + 1)) x177001_1 x177002_1 x177003_1 x177004_1 x177005_1)) = some r := by rw [if_pos rfl] at H; exact H
                  clear H
                  have H := H1
                  clear H1
                  have HC13 := Aside0.mk H
                  clear H
                  have hcz14_0 : wc.cell? ⟨gb176, 0, none⟩ = some (.int .i64 x177000_1) := (blk_cell BK176.out 0).trans rfl
                  have hcz14_1 : wc.cell? ⟨gb176, 1, none⟩ = some (.int .i64 x177001_1) := (blk_cell BK176.out 1).trans rfl
                  have hcz14_2 : wc.cell? ⟨gb176, 2, none⟩ = some (.int .i64 x177002_1) := (blk_cell BK176.out 2).trans rfl
                  have hcz14_3 : wc.cell? ⟨gb176, 3, none⟩ = some (.int .i64 x177003_1) := (blk_cell BK176.out 3).trans rfl
                  have hcz14_4 : wc.cell? ⟨gb176, 4, none⟩ = some (.int .i64 x177004_1) := (blk_cell BK176.out 4).trans rfl
                  have hcz14_5 : wc.cell? ⟨gb176, 5, none⟩ = some (.int .i64 x177005_1) := (blk_cell BK176.out 5).trans rfl
                  have hfz14_0 := blk_frozen BK176.out 0
                  have hfz14_1 := blk_frozen BK176.out 1
                  have hfz14_2 := blk_frozen BK176.out 2
                  have hfz14_3 := blk_frozen BK176.out 3
                  have hfz14_4 := blk_frozen BK176.out 4
                  have hfz14_5 := blk_frozen BK176.out 5
                  go_upto_region 13 with (fail)
                  go_cut [40] (fun v40 wc => ∃ (kq : Nat) (x40_12 : Bool), v40 = .bool x40_12 ∧ Aside0 (escritoirelaw05_PlanCounts.j2 kq (wrap64 (Int.tmod (IntKind.u64.wrap (a0)) 96)) x4_1 x5_1 0 x40_12 (wrap64 (x177000_1 + 1)) x177001_1 x177002_1 x177003_1 x177004_1 x177005_1 = some r) ∧ Aside0 (kq ≤ kj7) ∧ Aside0 (wc.heap[gb176]? = some (.cells #[.int .i64 (wrap64 (x177000_1 + 1)), .int .i64 x177001_1, .int .i64 x177002_1, .int .i64 x177003_1, .int .i64 x177004_1, .int .i64 x177005_1] 32 (0, 0))) ∧ Aside0 (Below w.heap.size w wc))
                  case first =>
                    have H := HC13.out
                    clear HC13
                    have H1 : (escritoirelaw05_PlanCounts.j2 kj7 (wrap64 (Int.tmod (IntKind.u64.wrap (a0)) 96)) x4_1 x5_1 0 false (wrap64 (x177000_1 + 1)) x177001_1 x177002_1 x177003_1 x177004_1 x177005_1) = some r := by rw [if_neg (by decide)] at H; exact H
                    clear H
                    have H := H1
                    clear H1
                    have H' := Aside0.mk H
                    clear H
                    go_wp2
                    go_meet
                    case rel => exact ⟨_, (false), (by first | rfl | (simp; done) | (simp [*]; done) | kernel_rfl), H', ⟨by have := HK1.out; have := HJ7.out; first | omega | exact Nat.le_refl _⟩, ⟨by (with_reducible repeat (first | refine blk_drewN ?_ _ | refine blk_drew ?_ | refine blk_alloc ?_ _)); refine blk_put (cs := #[.int .i64 x177000_1, .int .i64 x177001_1, .int .i64 x177002_1, .int .i64 x177003_1, .int .i64 x177004_1, .int .i64 x177005_1]) ?_ 0 _ rfl; (with_reducible repeat (first | refine blk_drewN ?_ _ | refine blk_drew ?_ | refine blk_alloc ?_ _)); exact BK176.out⟩, ⟨by repeat (first | (with_reducible first | exact HB.out | apply below_alloc | apply pw_below_drewN | apply below_drew1 | refine below_set ?_ GE176.out) | exact HB.out)⟩⟩
                  case rest =>
                    clear HC13
                    try clear c1
                    try clear p2
                    try clear c3
                    try clear c5
                    try clear c6
                    try clear c6b0
                    try clear p6
                    try clear c8
                    try clear c9
                    try clear c10
                    try clear c10b0
                    try clear c11
                    try clear c12
                    try clear hcz14_0
                    try clear hcz14_1
                    try clear hcz14_2
                    try clear hcz14_3
                    try clear hcz14_4
                    try clear hcz14_5
                    try clear hfz14_0
                    try clear hfz14_1
                    try clear hfz14_2
                    try clear hfz14_3
                    try clear hfz14_4
                    try clear hfz14_5
                    try clear p2
                    try clear p6
                    obtain ⟨kq, x40_12, rfl, HA, HJ12, BK176, HB⟩ := hcut
                    cases kq with
                    | zero => exact absurd HA.out (by simp [escritoirelaw05_PlanCounts.j2])
                    | succ kj12 =>
                      have H := HA.out
                      clear HA
                      simp only [escritoirelaw05_PlanCounts.j2] at H
                      by_cases c15 : x40_12 = true
                      · subst c15
                        have H1 : ((plan_Open.f kj12 x5_1).bind fun t179 => (if 0 = 2 then (if (t179 != true) = true then (some false) else (escritoirelaw05_PlanCounts.l0 kj12 (wrap64 (Int.tmod (IntKind.u64.wrap (a0)) 96)) (wrap64 (x4_1 + 1)) (wrap64 (x5_1 + 1)) (wrap64 (x177000_1 + 1)) x177001_1 x177002_1 x177003_1 x177004_1 x177005_1)) else (if 0 = 3 then (if (t179 != true) = true then (some false) else (escritoirelaw05_PlanCounts.l0 kj12 (wrap64 (Int.tmod (IntKind.u64.wrap (a0)) 96)) (wrap64 (x4_1 + 1)) (wrap64 (x5_1 + 1)) (wrap64 (x177000_1 + 1)) x177001_1 x177002_1 x177003_1 x177004_1 x177005_1)) else (if (t179 != false) = true then (some false) else (escritoirelaw05_PlanCounts.l0 kj12 (wrap64 (Int.tmod (IntKind.u64.wrap (a0)) 96)) (wrap64 (x4_1 + 1)) (wrap64 (x5_1 + 1)) (wrap64 (x177000_1 + 1)) x177001_1 x177002_1 x177003_1 x177004_1 x177005_1))))) = some r := by rw [if_pos rfl] at H; exact H
                        clear H
                        have H := H1
                        clear H1
                        replace H := Option.bind_eq_some_iff.mp H
                        obtain ⟨t179, A160, H⟩ := H
                        replace H : (if 0 = 2 then (if (t179 != true) = true then (some false) else (escritoirelaw05_PlanCounts.l0 kj12 (wrap64 (Int.tmod (IntKind.u64.wrap (a0)) 96)) (wrap64 (x4_1 + 1)) (wrap64 (x5_1 + 1)) (wrap64 (x177000_1 + 1)) x177001_1 x177002_1 x177003_1 x177004_1 x177005_1)) else (if 0 = 3 then (if (t179 != true) = true then (some false) else (escritoirelaw05_PlanCounts.l0 kj12 (wrap64 (Int.tmod (IntKind.u64.wrap (a0)) 96)) (wrap64 (x4_1 + 1)) (wrap64 (x5_1 + 1)) (wrap64 (x177000_1 + 1)) x177001_1 x177002_1 x177003_1 x177004_1 x177005_1)) else (if (t179 != false) = true then (some false) else (escritoirelaw05_PlanCounts.l0 kj12 (wrap64 (Int.tmod (IntKind.u64.wrap (a0)) 96)) (wrap64 (x4_1 + 1)) (wrap64 (x5_1 + 1)) (wrap64 (x177000_1 + 1)) x177001_1 x177002_1 x177003_1 x177004_1 x177005_1)))) = some r := H
                        have A16 := Aside0.mk A160
                        clear A160
                        have H1 : (if 0 = 3 then (if (t179 != true) = true then (some false) else (escritoirelaw05_PlanCounts.l0 kj12 (wrap64 (Int.tmod (IntKind.u64.wrap (a0)) 96)) (wrap64 (x4_1 + 1)) (wrap64 (x5_1 + 1)) (wrap64 (x177000_1 + 1)) x177001_1 x177002_1 x177003_1 x177004_1 x177005_1)) else (if (t179 != false) = true then (some false) else (escritoirelaw05_PlanCounts.l0 kj12 (wrap64 (Int.tmod (IntKind.u64.wrap (a0)) 96)) (wrap64 (x4_1 + 1)) (wrap64 (x5_1 + 1)) (wrap64 (x177000_1 + 1)) x177001_1 x177002_1 x177003_1 x177004_1 x177005_1))) = some r := by rw [if_neg (by decide)] at H; exact H
                        clear H
                        have H := H1
                        clear H1
                        have H1 : (if (t179 != false) = true then (some false) else (escritoirelaw05_PlanCounts.l0 kj12 (wrap64 (Int.tmod (IntKind.u64.wrap (a0)) 96)) (wrap64 (x4_1 + 1)) (wrap64 (x5_1 + 1)) (wrap64 (x177000_1 + 1)) x177001_1 x177002_1 x177003_1 x177004_1 x177005_1)) = some r := by rw [if_neg (by decide)] at H; exact H
                        clear H
                        have H := H1
                        clear H1
                        by_cases c17 : (t179 != false) = true
                        · rw [if_pos c17] at H
                          have c17b0 : (t179 != false) = true := c17
                          (try (have c17b1 : decide (t179 = false) = false := by simpa using c17))
                          (try (have c17b2 : (t179 == false) = false := by simpa using c17))
                          (try (have c17b3 : ¬ (t179 = false) := by simpa using c17))
                          clear c17
                          obtain rfl := Option.some.inj H
                          go_wp2_with (first | ((with_reducible refine gate_callee (f := 15) rfl ?_); refine goesL_ (some 44) rfl rfl Try.func15 (by kernel_rfl) rfl #[.int .i64 x5_1] rfl (by (try simp only [List.map_toArray, List.map_cons, List.map_nil]); first | done | rfl | (simp only [List.length_drop, List.length_take]; rfl)) ?_; (with_reducible refine (plan_Open.calls kj12 x5_1 t179 _ A16.out).mono ?_); rintro e w18 ⟨rfl, hb⟩; refine ⟨_, rfl, ?_⟩; have n0_ := Aside0.mk (blk_below (g := gb176) (o := .cells #[.int .i64 (wrap64 (x177000_1 + 1)), .int .i64 x177001_1, .int .i64 x177002_1, .int .i64 x177003_1, .int .i64 x177004_1, .int .i64 x177005_1] 32 (0, 0)) (by (with_reducible repeat (first | refine blk_drewN ?_ _ | refine blk_drew ?_ | refine blk_alloc ?_ _)); exact BK176.out) hb); have n1_ := Aside0.mk (below_step (by repeat (first | (with_reducible first | exact HB.out | apply below_alloc | apply pw_below_drewN | apply below_drew1 | refine below_set ?_ GE176.out) | exact HB.out)) hb); clear BK176; clear HB; have BK176 := n0_; have HB := n1_; clear n0_ n1_; (try clear hb); (try clear hb2); (try clear hk); (try clear hi)))
                          go_ret
                          exact ⟨by first | rfl | (simp [errW_none, errW_some] <;> rfl) | (simp [*, errW_none, errW_some] <;> rfl), by repeat (first | (with_reducible first | exact HB.out | apply below_alloc | apply pw_below_drewN | apply below_drew1 | refine below_set ?_ GE176.out) | exact HB.out)⟩
                        · rw [if_neg c17] at H
                          have c17b0 : (t179 != false) = false := by simpa using c17
                          (try (have c17b1 : decide (t179 = false) = true := by simpa using c17))
                          (try (have c17b2 : (t179 == false) = true := by simpa using c17))
                          clear c17
                          have H' := Aside0.mk H
                          clear H
                          go_wp2_with (first | ((with_reducible refine gate_callee (f := 15) rfl ?_); refine goesL_ (some 44) rfl rfl Try.func15 (by kernel_rfl) rfl #[.int .i64 x5_1] rfl (by (try simp only [List.map_toArray, List.map_cons, List.map_nil]); first | done | rfl | (simp only [List.length_drop, List.length_take]; rfl)) ?_; (with_reducible refine (plan_Open.calls kj12 x5_1 t179 _ A16.out).mono ?_); rintro e w19 ⟨rfl, hb⟩; refine ⟨_, rfl, ?_⟩; have n0_ := Aside0.mk (blk_below (g := gb176) (o := .cells #[.int .i64 (wrap64 (x177000_1 + 1)), .int .i64 x177001_1, .int .i64 x177002_1, .int .i64 x177003_1, .int .i64 x177004_1, .int .i64 x177005_1] 32 (0, 0)) (by (with_reducible repeat (first | refine blk_drewN ?_ _ | refine blk_drew ?_ | refine blk_alloc ?_ _)); exact BK176.out) hb); have n1_ := Aside0.mk (below_step (by repeat (first | (with_reducible first | exact HB.out | apply below_alloc | apply pw_below_drewN | apply below_drew1 | refine below_set ?_ GE176.out) | exact HB.out)) hb); clear BK176; clear HB; have BK176 := n0_; have HB := n1_; clear n0_ n1_; (try clear hb); (try clear hb2); (try clear hk); (try clear hi)))
                          go_roundg kj12
                          case measure => have := HK1.out; have := HJ7.out; have := HJ12.out; omega
                          case rel => exact ⟨(wrap64 (x4_1 + 1)), (wrap64 (x5_1 + 1)), ((wrap64 (x177000_1 + 1))), (x177001_1), (x177002_1), (x177003_1), (x177004_1), (x177005_1), (by first | rfl | (simp; done) | (simp [*]; done) | kernel_rfl), (by first | rfl | (simp; done) | (simp [*]; done) | kernel_rfl), H', ⟨by have := HK1.out; have := HJ7.out; have := HJ12.out; omega⟩, ⟨by (with_reducible repeat (first | refine blk_drewN ?_ _ | refine blk_drew ?_ | refine blk_alloc ?_ _)); exact BK176.out⟩, ⟨by repeat (first | (with_reducible first | exact HB.out | apply below_alloc | apply pw_below_drewN | apply below_drew1 | refine below_set ?_ GE176.out) | exact HB.out)⟩⟩
                      · replace c15 := Bool.eq_false_iff.mpr c15
                        subst c15
                        have H1 : ((plan_Open.f kj12 x5_1).bind fun t180 => (if 0 = 2 then (if (t180 != true) = true then (some false) else (escritoirelaw05_PlanCounts.l0 kj12 (wrap64 (Int.tmod (IntKind.u64.wrap (a0)) 96)) x4_1 (wrap64 (x5_1 + 1)) (wrap64 (x177000_1 + 1)) x177001_1 x177002_1 x177003_1 x177004_1 x177005_1)) else (if 0 = 3 then (if (t180 != true) = true then (some false) else (escritoirelaw05_PlanCounts.l0 kj12 (wrap64 (Int.tmod (IntKind.u64.wrap (a0)) 96)) x4_1 (wrap64 (x5_1 + 1)) (wrap64 (x177000_1 + 1)) x177001_1 x177002_1 x177003_1 x177004_1 x177005_1)) else (if (t180 != false) = true then (some false) else (escritoirelaw05_PlanCounts.l0 kj12 (wrap64 (Int.tmod (IntKind.u64.wrap (a0)) 96)) x4_1 (wrap64 (x5_1 + 1)) (wrap64 (x177000_1 + 1)) x177001_1 x177002_1 x177003_1 x177004_1 x177005_1))))) = some r := by rw [if_neg (show ¬ (false = true) by decide)] at H; exact H
                        clear H
                        have H := H1
                        clear H1
                        replace H := Option.bind_eq_some_iff.mp H
                        obtain ⟨t180, A200, H⟩ := H
                        replace H : (if 0 = 2 then (if (t180 != true) = true then (some false) else (escritoirelaw05_PlanCounts.l0 kj12 (wrap64 (Int.tmod (IntKind.u64.wrap (a0)) 96)) x4_1 (wrap64 (x5_1 + 1)) (wrap64 (x177000_1 + 1)) x177001_1 x177002_1 x177003_1 x177004_1 x177005_1)) else (if 0 = 3 then (if (t180 != true) = true then (some false) else (escritoirelaw05_PlanCounts.l0 kj12 (wrap64 (Int.tmod (IntKind.u64.wrap (a0)) 96)) x4_1 (wrap64 (x5_1 + 1)) (wrap64 (x177000_1 + 1)) x177001_1 x177002_1 x177003_1 x177004_1 x177005_1)) else (if (t180 != false) = true then (some false) else (escritoirelaw05_PlanCounts.l0 kj12 (wrap64 (Int.tmod (IntKind.u64.wrap (a0)) 96)) x4_1 (wrap64 (x5_1 + 1)) (wrap64 (x177000_1 + 1)) x177001_1 x177002_1 x177003_1 x177004_1 x177005_1)))) = some r := H
                        have A20 := Aside0.mk A200
                        clear A200
                        have H1 : (if 0 = 3 then (if (t180 != true) = true then (some false) else (escritoirelaw05_PlanCounts.l0 kj12 (wrap64 (Int.tmod (IntKind.u64.wrap (a0)) 96)) x4_1 (wrap64 (x5_1 + 1)) (wrap64 (x177000_1 + 1)) x177001_1 x177002_1 x177003_1 x177004_1 x177005_1)) else (if (t180 != false) = true then (some false) else (escritoirelaw05_PlanCounts.l0 kj12 (wrap64 (Int.tmod (IntKind.u64.wrap (a0)) 96)) x4_1 (wrap64 (x5_1 + 1)) (wrap64 (x177000_1 + 1)) x177001_1 x177002_1 x177003_1 x177004_1 x177005_1))) = some r := by rw [if_neg (by decide)] at H; exact H
                        clear H
                        have H := H1
                        clear H1
                        have H1 : (if (t180 != false) = true then (some false) else (escritoirelaw05_PlanCounts.l0 kj12 (wrap64 (Int.tmod (IntKind.u64.wrap (a0)) 96)) x4_1 (wrap64 (x5_1 + 1)) (wrap64 (x177000_1 + 1)) x177001_1 x177002_1 x177003_1 x177004_1 x177005_1)) = some r := by rw [if_neg (by decide)] at H; exact H
                        clear H
                        have H := H1
                        clear H1
                        by_cases c21 : (t180 != false) = true
                        · rw [if_pos c21] at H
                          have c21b0 : (t180 != false) = true := c21
                          (try (have c21b1 : decide (t180 = false) = false := by simpa using c21))
                          (try (have c21b2 : (t180 == false) = false := by simpa using c21))
                          (try (have c21b3 : ¬ (t180 = false) := by simpa using c21))
                          clear c21
                          obtain rfl := Option.some.inj H
                          go_wp2_with (first | ((with_reducible refine gate_callee (f := 15) rfl ?_); refine goesL_ (some 44) rfl rfl Try.func15 (by kernel_rfl) rfl #[.int .i64 x5_1] rfl (by (try simp only [List.map_toArray, List.map_cons, List.map_nil]); first | done | rfl | (simp only [List.length_drop, List.length_take]; rfl)) ?_; (with_reducible refine (plan_Open.calls kj12 x5_1 t180 _ A20.out).mono ?_); rintro e w22 ⟨rfl, hb⟩; refine ⟨_, rfl, ?_⟩; have n0_ := Aside0.mk (blk_below (g := gb176) (o := .cells #[.int .i64 (wrap64 (x177000_1 + 1)), .int .i64 x177001_1, .int .i64 x177002_1, .int .i64 x177003_1, .int .i64 x177004_1, .int .i64 x177005_1] 32 (0, 0)) (by (with_reducible repeat (first | refine blk_drewN ?_ _ | refine blk_drew ?_ | refine blk_alloc ?_ _)); exact BK176.out) hb); have n1_ := Aside0.mk (below_step (by repeat (first | (with_reducible first | exact HB.out | apply below_alloc | apply pw_below_drewN | apply below_drew1 | refine below_set ?_ GE176.out) | exact HB.out)) hb); clear BK176; clear HB; have BK176 := n0_; have HB := n1_; clear n0_ n1_; (try clear hb); (try clear hb2); (try clear hk); (try clear hi)))
                          go_ret
                          exact ⟨by first | rfl | (simp [errW_none, errW_some] <;> rfl) | (simp [*, errW_none, errW_some] <;> rfl), by repeat (first | (with_reducible first | exact HB.out | apply below_alloc | apply pw_below_drewN | apply below_drew1 | refine below_set ?_ GE176.out) | exact HB.out)⟩
                        · rw [if_neg c21] at H
                          have c21b0 : (t180 != false) = false := by simpa using c21
                          (try (have c21b1 : decide (t180 = false) = true := by simpa using c21))
                          (try (have c21b2 : (t180 == false) = true := by simpa using c21))
                          clear c21
                          have H' := Aside0.mk H
                          clear H
                          go_wp2_with (first | ((with_reducible refine gate_callee (f := 15) rfl ?_); refine goesL_ (some 44) rfl rfl Try.func15 (by kernel_rfl) rfl #[.int .i64 x5_1] rfl (by (try simp only [List.map_toArray, List.map_cons, List.map_nil]); first | done | rfl | (simp only [List.length_drop, List.length_take]; rfl)) ?_; (with_reducible refine (plan_Open.calls kj12 x5_1 t180 _ A20.out).mono ?_); rintro e w23 ⟨rfl, hb⟩; refine ⟨_, rfl, ?_⟩; have n0_ := Aside0.mk (blk_below (g := gb176) (o := .cells #[.int .i64 (wrap64 (x177000_1 + 1)), .int .i64 x177001_1, .int .i64 x177002_1, .int .i64 x177003_1, .int .i64 x177004_1, .int .i64 x177005_1] 32 (0, 0)) (by (with_reducible repeat (first | refine blk_drewN ?_ _ | refine blk_drew ?_ | refine blk_alloc ?_ _)); exact BK176.out) hb); have n1_ := Aside0.mk (below_step (by repeat (first | (with_reducible first | exact HB.out | apply below_alloc | apply pw_below_drewN | apply below_drew1 | refine below_set ?_ GE176.out) | exact HB.out)) hb); clear BK176; clear HB; have BK176 := n0_; have HB := n1_; clear n0_ n1_; (try clear hb); (try clear hb2); (try clear hk); (try clear hi)))
                          go_roundg kj12
                          case measure => have := HK1.out; have := HJ7.out; have := HJ12.out; omega
                          case rel => exact ⟨(x4_1), (wrap64 (x5_1 + 1)), ((wrap64 (x177000_1 + 1))), (x177001_1), (x177002_1), (x177003_1), (x177004_1), (x177005_1), (by first | rfl | (simp; done) | (simp [*]; done) | kernel_rfl), (by first | rfl | (simp; done) | (simp [*]; done) | kernel_rfl), H', ⟨by have := HK1.out; have := HJ7.out; have := HJ12.out; omega⟩, ⟨by (with_reducible repeat (first | refine blk_drewN ?_ _ | refine blk_drew ?_ | refine blk_alloc ?_ _)); exact BK176.out⟩, ⟨by repeat (first | (with_reducible first | exact HB.out | apply below_alloc | apply pw_below_drewN | apply below_drew1 | refine below_set ?_ GE176.out) | exact HB.out)⟩⟩
                · rw [if_neg c12] at H
                  by_cases c24 : t177 = 1
                  · subst c24
                    have H1 : (if 1 = 5 then (escritoirelaw05_PlanCounts.j3 kj7 (wrap64 (Int.tmod (IntKind.u64.wrap (a0)) 96)) x4_1 x5_1 1 (t178 == (wrap64 (Int.tmod (IntKind.u64.wrap (a0)) 96))) x177000_1 (wrap64 (x177001_1 + 1)) x177002_1 x177003_1 x177004_1 x177005_1) else (escritoirelaw05_PlanCounts.j3 kj7 (wrap64 (Int.tmod (IntKind.u64.wrap (a0)) 96)) x4_1 x5_1 1 false x177000_1 (wrap64 (x177001_1 + 1)) x177002_1 x177003_1 x177004_1 x177005_1)) = some r := by rw [if_pos rfl] at H; exact H
                    clear H
                    have H := H1
                    clear H1
                    have HC25 := Aside0.mk H
                    clear H
                    have hcz26_0 : wc.cell? ⟨gb176, 0, none⟩ = some (.int .i64 x177000_1) := (blk_cell BK176.out 0).trans rfl
                    have hcz26_1 : wc.cell? ⟨gb176, 1, none⟩ = some (.int .i64 x177001_1) := (blk_cell BK176.out 1).trans rfl
                    have hcz26_2 : wc.cell? ⟨gb176, 2, none⟩ = some (.int .i64 x177002_1) := (blk_cell BK176.out 2).trans rfl
                    have hcz26_3 : wc.cell? ⟨gb176, 3, none⟩ = some (.int .i64 x177003_1) := (blk_cell BK176.out 3).trans rfl
                    have hcz26_4 : wc.cell? ⟨gb176, 4, none⟩ = some (.int .i64 x177004_1) := (blk_cell BK176.out 4).trans rfl
                    have hcz26_5 : wc.cell? ⟨gb176, 5, none⟩ = some (.int .i64 x177005_1) := (blk_cell BK176.out 5).trans rfl
                    have hfz26_0 := blk_frozen BK176.out 0
                    have hfz26_1 := blk_frozen BK176.out 1
                    have hfz26_2 := blk_frozen BK176.out 2
                    have hfz26_3 := blk_frozen BK176.out 3
                    have hfz26_4 := blk_frozen BK176.out 4
                    have hfz26_5 := blk_frozen BK176.out 5
                    go_upto_region 13 with (fail)
                    go_cut [40] (fun v40 wc => ∃ (kq : Nat) (x40_24 : Bool), v40 = .bool x40_24 ∧ Aside0 (escritoirelaw05_PlanCounts.j3 kq (wrap64 (Int.tmod (IntKind.u64.wrap (a0)) 96)) x4_1 x5_1 1 x40_24 x177000_1 (wrap64 (x177001_1 + 1)) x177002_1 x177003_1 x177004_1 x177005_1 = some r) ∧ Aside0 (kq ≤ kj7) ∧ Aside0 (wc.heap[gb176]? = some (.cells #[.int .i64 x177000_1, .int .i64 (wrap64 (x177001_1 + 1)), .int .i64 x177002_1, .int .i64 x177003_1, .int .i64 x177004_1, .int .i64 x177005_1] 32 (0, 0))) ∧ Aside0 (Below w.heap.size w wc))
                    case first =>
                      have H := HC25.out
                      clear HC25
                      have H1 : (escritoirelaw05_PlanCounts.j3 kj7 (wrap64 (Int.tmod (IntKind.u64.wrap (a0)) 96)) x4_1 x5_1 1 false x177000_1 (wrap64 (x177001_1 + 1)) x177002_1 x177003_1 x177004_1 x177005_1) = some r := by rw [if_neg (by decide)] at H; exact H
                      clear H
                      have H := H1
                      clear H1
                      have H' := Aside0.mk H
                      clear H
                      go_wp2
                      go_meet
                      case rel => exact ⟨_, (false), (by first | rfl | (simp; done) | (simp [*]; done) | kernel_rfl), H', ⟨by have := HK1.out; have := HJ7.out; first | omega | exact Nat.le_refl _⟩, ⟨by (with_reducible repeat (first | refine blk_drewN ?_ _ | refine blk_drew ?_ | refine blk_alloc ?_ _)); refine blk_put (cs := #[.int .i64 x177000_1, .int .i64 x177001_1, .int .i64 x177002_1, .int .i64 x177003_1, .int .i64 x177004_1, .int .i64 x177005_1]) ?_ 1 _ rfl; (with_reducible repeat (first | refine blk_drewN ?_ _ | refine blk_drew ?_ | refine blk_alloc ?_ _)); exact BK176.out⟩, ⟨by repeat (first | (with_reducible first | exact HB.out | apply below_alloc | apply pw_below_drewN | apply below_drew1 | refine below_set ?_ GE176.out) | exact HB.out)⟩⟩
                    case rest =>
                      clear HC25
                      try clear c1
                      try clear c2
                      try clear p2
                      try clear c3
                      try clear c5
                      try clear c6
                      try clear c6b0
                      try clear p6
                      try clear c8
                      try clear c9
                      try clear c10
                      try clear c10b0
                      try clear c11
                      try clear c12
                      try clear c15
                      try clear c17
                      try clear c17b0
                      try clear c17b1
                      try clear c17b2
                      try clear c21
                      try clear c21b0
                      try clear c21b1
                      try clear c21b2
                      try clear c24
                      try clear hcz14_0
                      try clear hcz14_1
                      try clear hcz14_2
                      try clear hcz14_3
                      try clear hcz14_4
                      try clear hcz14_5
                      try clear hcz26_0
                      try clear hcz26_1
                      try clear hcz26_2
                      try clear hcz26_3
                      try clear hcz26_4
                      try clear hcz26_5
                      try clear hfz14_0
                      try clear hfz14_1
                      try clear hfz14_2
                      try clear hfz14_3
                      try clear hfz14_4
                      try clear hfz14_5
                      try clear hfz26_0
                      try clear hfz26_1
                      try clear hfz26_2
                      try clear hfz26_3
                      try clear hfz26_4
                      try clear hfz26_5
                      try clear p2
                      try clear p6
                      obtain ⟨kq, x40_24, rfl, HA, HJ24, BK176, HB⟩ := hcut
                      cases kq with
                      | zero => exact absurd HA.out (by simp [escritoirelaw05_PlanCounts.j3])
                      | succ kj24 =>
                        have H := HA.out
                        clear HA
                        simp only [escritoirelaw05_PlanCounts.j3] at H
                        by_cases c27 : x40_24 = true
                        · subst c27
                          have H1 : ((plan_Open.f kj24 x5_1).bind fun t181 => (if 1 = 2 then (if (t181 != true) = true then (some false) else (escritoirelaw05_PlanCounts.l0 kj24 (wrap64 (Int.tmod (IntKind.u64.wrap (a0)) 96)) (wrap64 (x4_1 + 1)) (wrap64 (x5_1 + 1)) x177000_1 (wrap64 (x177001_1 + 1)) x177002_1 x177003_1 x177004_1 x177005_1)) else (if 1 = 3 then (if (t181 != true) = true then (some false) else (escritoirelaw05_PlanCounts.l0 kj24 (wrap64 (Int.tmod (IntKind.u64.wrap (a0)) 96)) (wrap64 (x4_1 + 1)) (wrap64 (x5_1 + 1)) x177000_1 (wrap64 (x177001_1 + 1)) x177002_1 x177003_1 x177004_1 x177005_1)) else (if (t181 != false) = true then (some false) else (escritoirelaw05_PlanCounts.l0 kj24 (wrap64 (Int.tmod (IntKind.u64.wrap (a0)) 96)) (wrap64 (x4_1 + 1)) (wrap64 (x5_1 + 1)) x177000_1 (wrap64 (x177001_1 + 1)) x177002_1 x177003_1 x177004_1 x177005_1))))) = some r := by rw [if_pos rfl] at H; exact H
                          clear H
                          have H := H1
                          clear H1
                          replace H := Option.bind_eq_some_iff.mp H
                          obtain ⟨t181, A280, H⟩ := H
                          replace H : (if 1 = 2 then (if (t181 != true) = true then (some false) else (escritoirelaw05_PlanCounts.l0 kj24 (wrap64 (Int.tmod (IntKind.u64.wrap (a0)) 96)) (wrap64 (x4_1 + 1)) (wrap64 (x5_1 + 1)) x177000_1 (wrap64 (x177001_1 + 1)) x177002_1 x177003_1 x177004_1 x177005_1)) else (if 1 = 3 then (if (t181 != true) = true then (some false) else (escritoirelaw05_PlanCounts.l0 kj24 (wrap64 (Int.tmod (IntKind.u64.wrap (a0)) 96)) (wrap64 (x4_1 + 1)) (wrap64 (x5_1 + 1)) x177000_1 (wrap64 (x177001_1 + 1)) x177002_1 x177003_1 x177004_1 x177005_1)) else (if (t181 != false) = true then (some false) else (escritoirelaw05_PlanCounts.l0 kj24 (wrap64 (Int.tmod (IntKind.u64.wrap (a0)) 96)) (wrap64 (x4_1 + 1)) (wrap64 (x5_1 + 1)) x177000_1 (wrap64 (x177001_1 + 1)) x177002_1 x177003_1 x177004_1 x177005_1)))) = some r := H
                          have A28 := Aside0.mk A280
                          clear A280
                          have H1 : (if 1 = 3 then (if (t181 != true) = true then (some false) else (escritoirelaw05_PlanCounts.l0 kj24 (wrap64 (Int.tmod (IntKind.u64.wrap (a0)) 96)) (wrap64 (x4_1 + 1)) (wrap64 (x5_1 + 1)) x177000_1 (wrap64 (x177001_1 + 1)) x177002_1 x177003_1 x177004_1 x177005_1)) else (if (t181 != false) = true then (some false) else (escritoirelaw05_PlanCounts.l0 kj24 (wrap64 (Int.tmod (IntKind.u64.wrap (a0)) 96)) (wrap64 (x4_1 + 1)) (wrap64 (x5_1 + 1)) x177000_1 (wrap64 (x177001_1 + 1)) x177002_1 x177003_1 x177004_1 x177005_1))) = some r := by rw [if_neg (by decide)] at H; exact H
                          clear H
                          have H := H1
                          clear H1
                          have H1 : (if (t181 != false) = true then (some false) else (escritoirelaw05_PlanCounts.l0 kj24 (wrap64 (Int.tmod (IntKind.u64.wrap (a0)) 96)) (wrap64 (x4_1 + 1)) (wrap64 (x5_1 + 1)) x177000_1 (wrap64 (x177001_1 + 1)) x177002_1 x177003_1 x177004_1 x177005_1)) = some r := by rw [if_neg (by decide)] at H; exact H
                          clear H
                          have H := H1
                          clear H1
                          by_cases c29 : (t181 != false) = true
                          · rw [if_pos c29] at H
                            have c29b0 : (t181 != false) = true := c29
                            (try (have c29b1 : decide (t181 = false) = false := by simpa using c29))
                            (try (have c29b2 : (t181 == false) = false := by simpa using c29))
                            (try (have c29b3 : ¬ (t181 = false) := by simpa using c29))
                            clear c29
                            obtain rfl := Option.some.inj H
                            go_wp2_with (first | ((with_reducible refine gate_callee (f := 15) rfl ?_); refine goesL_ (some 44) rfl rfl Try.func15 (by kernel_rfl) rfl #[.int .i64 x5_1] rfl (by (try simp only [List.map_toArray, List.map_cons, List.map_nil]); first | done | rfl | (simp only [List.length_drop, List.length_take]; rfl)) ?_; (with_reducible refine (plan_Open.calls kj24 x5_1 t181 _ A28.out).mono ?_); rintro e w30 ⟨rfl, hb⟩; refine ⟨_, rfl, ?_⟩; have n0_ := Aside0.mk (blk_below (g := gb176) (o := .cells #[.int .i64 x177000_1, .int .i64 (wrap64 (x177001_1 + 1)), .int .i64 x177002_1, .int .i64 x177003_1, .int .i64 x177004_1, .int .i64 x177005_1] 32 (0, 0)) (by (with_reducible repeat (first | refine blk_drewN ?_ _ | refine blk_drew ?_ | refine blk_alloc ?_ _)); exact BK176.out) hb); have n1_ := Aside0.mk (below_step (by repeat (first | (with_reducible first | exact HB.out | apply below_alloc | apply pw_below_drewN | apply below_drew1 | refine below_set ?_ GE176.out) | exact HB.out)) hb); clear BK176; clear HB; have BK176 := n0_; have HB := n1_; clear n0_ n1_; (try clear hb); (try clear hb2); (try clear hk); (try clear hi)))
                            go_ret
                            exact ⟨by first | rfl | (simp [errW_none, errW_some] <;> rfl) | (simp [*, errW_none, errW_some] <;> rfl), by repeat (first | (with_reducible first | exact HB.out | apply below_alloc | apply pw_below_drewN | apply below_drew1 | refine below_set ?_ GE176.out) | exact HB.out)⟩
                          · rw [if_neg c29] at H
                            have c29b0 : (t181 != false) = false := by simpa using c29
                            (try (have c29b1 : decide (t181 = false) = true := by simpa using c29))
                            (try (have c29b2 : (t181 == false) = true := by simpa using c29))
                            clear c29
                            have H' := Aside0.mk H
                            clear H
                            go_wp2_with (first | ((with_reducible refine gate_callee (f := 15) rfl ?_); refine goesL_ (some 44) rfl rfl Try.func15 (by kernel_rfl) rfl #[.int .i64 x5_1] rfl (by (try simp only [List.map_toArray, List.map_cons, List.map_nil]); first | done | rfl | (simp only [List.length_drop, List.length_take]; rfl)) ?_; (with_reducible refine (plan_Open.calls kj24 x5_1 t181 _ A28.out).mono ?_); rintro e w31 ⟨rfl, hb⟩; refine ⟨_, rfl, ?_⟩; have n0_ := Aside0.mk (blk_below (g := gb176) (o := .cells #[.int .i64 x177000_1, .int .i64 (wrap64 (x177001_1 + 1)), .int .i64 x177002_1, .int .i64 x177003_1, .int .i64 x177004_1, .int .i64 x177005_1] 32 (0, 0)) (by (with_reducible repeat (first | refine blk_drewN ?_ _ | refine blk_drew ?_ | refine blk_alloc ?_ _)); exact BK176.out) hb); have n1_ := Aside0.mk (below_step (by repeat (first | (with_reducible first | exact HB.out | apply below_alloc | apply pw_below_drewN | apply below_drew1 | refine below_set ?_ GE176.out) | exact HB.out)) hb); clear BK176; clear HB; have BK176 := n0_; have HB := n1_; clear n0_ n1_; (try clear hb); (try clear hb2); (try clear hk); (try clear hi)))
                            go_roundg kj24
                            case measure => have := HK1.out; have := HJ7.out; have := HJ24.out; omega
                            case rel => exact ⟨(wrap64 (x4_1 + 1)), (wrap64 (x5_1 + 1)), (x177000_1), ((wrap64 (x177001_1 + 1))), (x177002_1), (x177003_1), (x177004_1), (x177005_1), (by first | rfl | (simp; done) | (simp [*]; done) | kernel_rfl), (by first | rfl | (simp; done) | (simp [*]; done) | kernel_rfl), H', ⟨by have := HK1.out; have := HJ7.out; have := HJ24.out; omega⟩, ⟨by (with_reducible repeat (first | refine blk_drewN ?_ _ | refine blk_drew ?_ | refine blk_alloc ?_ _)); exact BK176.out⟩, ⟨by repeat (first | (with_reducible first | exact HB.out | apply below_alloc | apply pw_below_drewN | apply below_drew1 | refine below_set ?_ GE176.out) | exact HB.out)⟩⟩
                        · replace c27 := Bool.eq_false_iff.mpr c27
                          subst c27
                          have H1 : ((plan_Open.f kj24 x5_1).bind fun t182 => (if 1 = 2 then (if (t182 != true) = true then (some false) else (escritoirelaw05_PlanCounts.l0 kj24 (wrap64 (Int.tmod (IntKind.u64.wrap (a0)) 96)) x4_1 (wrap64 (x5_1 + 1)) x177000_1 (wrap64 (x177001_1 + 1)) x177002_1 x177003_1 x177004_1 x177005_1)) else (if 1 = 3 then (if (t182 != true) = true then (some false) else (escritoirelaw05_PlanCounts.l0 kj24 (wrap64 (Int.tmod (IntKind.u64.wrap (a0)) 96)) x4_1 (wrap64 (x5_1 + 1)) x177000_1 (wrap64 (x177001_1 + 1)) x177002_1 x177003_1 x177004_1 x177005_1)) else (if (t182 != false) = true then (some false) else (escritoirelaw05_PlanCounts.l0 kj24 (wrap64 (Int.tmod (IntKind.u64.wrap (a0)) 96)) x4_1 (wrap64 (x5_1 + 1)) x177000_1 (wrap64 (x177001_1 + 1)) x177002_1 x177003_1 x177004_1 x177005_1))))) = some r := by rw [if_neg (show ¬ (false = true) by decide)] at H; exact H
                          clear H
                          have H := H1
                          clear H1
                          replace H := Option.bind_eq_some_iff.mp H
                          obtain ⟨t182, A320, H⟩ := H
                          replace H : (if 1 = 2 then (if (t182 != true) = true then (some false) else (escritoirelaw05_PlanCounts.l0 kj24 (wrap64 (Int.tmod (IntKind.u64.wrap (a0)) 96)) x4_1 (wrap64 (x5_1 + 1)) x177000_1 (wrap64 (x177001_1 + 1)) x177002_1 x177003_1 x177004_1 x177005_1)) else (if 1 = 3 then (if (t182 != true) = true then (some false) else (escritoirelaw05_PlanCounts.l0 kj24 (wrap64 (Int.tmod (IntKind.u64.wrap (a0)) 96)) x4_1 (wrap64 (x5_1 + 1)) x177000_1 (wrap64 (x177001_1 + 1)) x177002_1 x177003_1 x177004_1 x177005_1)) else (if (t182 != false) = true then (some false) else (escritoirelaw05_PlanCounts.l0 kj24 (wrap64 (Int.tmod (IntKind.u64.wrap (a0)) 96)) x4_1 (wrap64 (x5_1 + 1)) x177000_1 (wrap64 (x177001_1 + 1)) x177002_1 x177003_1 x177004_1 x177005_1)))) = some r := H
                          have A32 := Aside0.mk A320
                          clear A320
                          have H1 : (if 1 = 3 then (if (t182 != true) = true then (some false) else (escritoirelaw05_PlanCounts.l0 kj24 (wrap64 (Int.tmod (IntKind.u64.wrap (a0)) 96)) x4_1 (wrap64 (x5_1 + 1)) x177000_1 (wrap64 (x177001_1 + 1)) x177002_1 x177003_1 x177004_1 x177005_1)) else (if (t182 != false) = true then (some false) else (escritoirelaw05_PlanCounts.l0 kj24 (wrap64 (Int.tmod (IntKind.u64.wrap (a0)) 96)) x4_1 (wrap64 (x5_1 + 1)) x177000_1 (wrap64 (x177001_1 + 1)) x177002_1 x177003_1 x177004_1 x177005_1))) = some r := by rw [if_neg (by decide)] at H; exact H
                          clear H
                          have H := H1
                          clear H1
                          have H1 : (if (t182 != false) = true then (some false) else (escritoirelaw05_PlanCounts.l0 kj24 (wrap64 (Int.tmod (IntKind.u64.wrap (a0)) 96)) x4_1 (wrap64 (x5_1 + 1)) x177000_1 (wrap64 (x177001_1 + 1)) x177002_1 x177003_1 x177004_1 x177005_1)) = some r := by rw [if_neg (by decide)] at H; exact H
                          clear H
                          have H := H1
                          clear H1
                          by_cases c33 : (t182 != false) = true
                          · rw [if_pos c33] at H
                            have c33b0 : (t182 != false) = true := c33
                            (try (have c33b1 : decide (t182 = false) = false := by simpa using c33))
                            (try (have c33b2 : (t182 == false) = false := by simpa using c33))
                            (try (have c33b3 : ¬ (t182 = false) := by simpa using c33))
                            clear c33
                            obtain rfl := Option.some.inj H
                            go_wp2_with (first | ((with_reducible refine gate_callee (f := 15) rfl ?_); refine goesL_ (some 44) rfl rfl Try.func15 (by kernel_rfl) rfl #[.int .i64 x5_1] rfl (by (try simp only [List.map_toArray, List.map_cons, List.map_nil]); first | done | rfl | (simp only [List.length_drop, List.length_take]; rfl)) ?_; (with_reducible refine (plan_Open.calls kj24 x5_1 t182 _ A32.out).mono ?_); rintro e w34 ⟨rfl, hb⟩; refine ⟨_, rfl, ?_⟩; have n0_ := Aside0.mk (blk_below (g := gb176) (o := .cells #[.int .i64 x177000_1, .int .i64 (wrap64 (x177001_1 + 1)), .int .i64 x177002_1, .int .i64 x177003_1, .int .i64 x177004_1, .int .i64 x177005_1] 32 (0, 0)) (by (with_reducible repeat (first | refine blk_drewN ?_ _ | refine blk_drew ?_ | refine blk_alloc ?_ _)); exact BK176.out) hb); have n1_ := Aside0.mk (below_step (by repeat (first | (with_reducible first | exact HB.out | apply below_alloc | apply pw_below_drewN | apply below_drew1 | refine below_set ?_ GE176.out) | exact HB.out)) hb); clear BK176; clear HB; have BK176 := n0_; have HB := n1_; clear n0_ n1_; (try clear hb); (try clear hb2); (try clear hk); (try clear hi)))
                            go_ret
                            exact ⟨by first | rfl | (simp [errW_none, errW_some] <;> rfl) | (simp [*, errW_none, errW_some] <;> rfl), by repeat (first | (with_reducible first | exact HB.out | apply below_alloc | apply pw_below_drewN | apply below_drew1 | refine below_set ?_ GE176.out) | exact HB.out)⟩
                          · rw [if_neg c33] at H
                            have c33b0 : (t182 != false) = false := by simpa using c33
                            (try (have c33b1 : decide (t182 = false) = true := by simpa using c33))
                            (try (have c33b2 : (t182 == false) = true := by simpa using c33))
                            clear c33
                            have H' := Aside0.mk H
                            clear H
                            go_wp2_with (first | ((with_reducible refine gate_callee (f := 15) rfl ?_); refine goesL_ (some 44) rfl rfl Try.func15 (by kernel_rfl) rfl #[.int .i64 x5_1] rfl (by (try simp only [List.map_toArray, List.map_cons, List.map_nil]); first | done | rfl | (simp only [List.length_drop, List.length_take]; rfl)) ?_; (with_reducible refine (plan_Open.calls kj24 x5_1 t182 _ A32.out).mono ?_); rintro e w35 ⟨rfl, hb⟩; refine ⟨_, rfl, ?_⟩; have n0_ := Aside0.mk (blk_below (g := gb176) (o := .cells #[.int .i64 x177000_1, .int .i64 (wrap64 (x177001_1 + 1)), .int .i64 x177002_1, .int .i64 x177003_1, .int .i64 x177004_1, .int .i64 x177005_1] 32 (0, 0)) (by (with_reducible repeat (first | refine blk_drewN ?_ _ | refine blk_drew ?_ | refine blk_alloc ?_ _)); exact BK176.out) hb); have n1_ := Aside0.mk (below_step (by repeat (first | (with_reducible first | exact HB.out | apply below_alloc | apply pw_below_drewN | apply below_drew1 | refine below_set ?_ GE176.out) | exact HB.out)) hb); clear BK176; clear HB; have BK176 := n0_; have HB := n1_; clear n0_ n1_; (try clear hb); (try clear hb2); (try clear hk); (try clear hi)))
                            go_roundg kj24
                            case measure => have := HK1.out; have := HJ7.out; have := HJ24.out; omega
                            case rel => exact ⟨(x4_1), (wrap64 (x5_1 + 1)), (x177000_1), ((wrap64 (x177001_1 + 1))), (x177002_1), (x177003_1), (x177004_1), (x177005_1), (by first | rfl | (simp; done) | (simp [*]; done) | kernel_rfl), (by first | rfl | (simp; done) | (simp [*]; done) | kernel_rfl), H', ⟨by have := HK1.out; have := HJ7.out; have := HJ24.out; omega⟩, ⟨by (with_reducible repeat (first | refine blk_drewN ?_ _ | refine blk_drew ?_ | refine blk_alloc ?_ _)); exact BK176.out⟩, ⟨by repeat (first | (with_reducible first | exact HB.out | apply below_alloc | apply pw_below_drewN | apply below_drew1 | refine below_set ?_ GE176.out) | exact HB.out)⟩⟩
                  · rw [if_neg c24] at H
                    by_cases c36 : t177 = 2
                    · subst c36
                      have H1 : (if 2 = 5 then (escritoirelaw05_PlanCounts.j4 kj7 (wrap64 (Int.tmod (IntKind.u64.wrap (a0)) 96)) x4_1 x5_1 2 (t178 == (wrap64 (Int.tmod (IntKind.u64.wrap (a0)) 96))) x177000_1 x177001_1 (wrap64 (x177002_1 + 1)) x177003_1 x177004_1 x177005_1) else (escritoirelaw05_PlanCounts.j4 kj7 (wrap64 (Int.tmod (IntKind.u64.wrap (a0)) 96)) x4_1 x5_1 2 false x177000_1 x177001_1 (wrap64 (x177002_1 + 1)) x177003_1 x177004_1 x177005_1)) = some r := by rw [if_pos rfl] at H; exact H
                      clear H
                      have H := H1
                      clear H1
                      have HC37 := Aside0.mk H
                      clear H
                      have hcz38_0 : wc.cell? ⟨gb176, 0, none⟩ = some (.int .i64 x177000_1) := (blk_cell BK176.out 0).trans rfl
                      have hcz38_1 : wc.cell? ⟨gb176, 1, none⟩ = some (.int .i64 x177001_1) := (blk_cell BK176.out 1).trans rfl
                      have hcz38_2 : wc.cell? ⟨gb176, 2, none⟩ = some (.int .i64 x177002_1) := (blk_cell BK176.out 2).trans rfl
                      have hcz38_3 : wc.cell? ⟨gb176, 3, none⟩ = some (.int .i64 x177003_1) := (blk_cell BK176.out 3).trans rfl
                      have hcz38_4 : wc.cell? ⟨gb176, 4, none⟩ = some (.int .i64 x177004_1) := (blk_cell BK176.out 4).trans rfl
                      have hcz38_5 : wc.cell? ⟨gb176, 5, none⟩ = some (.int .i64 x177005_1) := (blk_cell BK176.out 5).trans rfl
                      have hfz38_0 := blk_frozen BK176.out 0
                      have hfz38_1 := blk_frozen BK176.out 1
                      have hfz38_2 := blk_frozen BK176.out 2
                      have hfz38_3 := blk_frozen BK176.out 3
                      have hfz38_4 := blk_frozen BK176.out 4
                      have hfz38_5 := blk_frozen BK176.out 5
                      go_upto_region 13 with (fail)
                      go_cut [40] (fun v40 wc => ∃ (kq : Nat) (x40_36 : Bool), v40 = .bool x40_36 ∧ Aside0 (escritoirelaw05_PlanCounts.j4 kq (wrap64 (Int.tmod (IntKind.u64.wrap (a0)) 96)) x4_1 x5_1 2 x40_36 x177000_1 x177001_1 (wrap64 (x177002_1 + 1)) x177003_1 x177004_1 x177005_1 = some r) ∧ Aside0 (kq ≤ kj7) ∧ Aside0 (wc.heap[gb176]? = some (.cells #[.int .i64 x177000_1, .int .i64 x177001_1, .int .i64 (wrap64 (x177002_1 + 1)), .int .i64 x177003_1, .int .i64 x177004_1, .int .i64 x177005_1] 32 (0, 0))) ∧ Aside0 (Below w.heap.size w wc))
                      case first =>
                        have H := HC37.out
                        clear HC37
                        have H1 : (escritoirelaw05_PlanCounts.j4 kj7 (wrap64 (Int.tmod (IntKind.u64.wrap (a0)) 96)) x4_1 x5_1 2 false x177000_1 x177001_1 (wrap64 (x177002_1 + 1)) x177003_1 x177004_1 x177005_1) = some r := by rw [if_neg (by decide)] at H; exact H
                        clear H
                        have H := H1
                        clear H1
                        have H' := Aside0.mk H
                        clear H
                        go_wp2
                        go_meet
                        case rel => exact ⟨_, (false), (by first | rfl | (simp; done) | (simp [*]; done) | kernel_rfl), H', ⟨by have := HK1.out; have := HJ7.out; first | omega | exact Nat.le_refl _⟩, ⟨by (with_reducible repeat (first | refine blk_drewN ?_ _ | refine blk_drew ?_ | refine blk_alloc ?_ _)); refine blk_put (cs := #[.int .i64 x177000_1, .int .i64 x177001_1, .int .i64 x177002_1, .int .i64 x177003_1, .int .i64 x177004_1, .int .i64 x177005_1]) ?_ 2 _ rfl; (with_reducible repeat (first | refine blk_drewN ?_ _ | refine blk_drew ?_ | refine blk_alloc ?_ _)); exact BK176.out⟩, ⟨by repeat (first | (with_reducible first | exact HB.out | apply below_alloc | apply pw_below_drewN | apply below_drew1 | refine below_set ?_ GE176.out) | exact HB.out)⟩⟩
                      case rest =>
                        clear HC37
                        try clear c1
                        try clear c2
                        try clear p2
                        try clear c3
                        try clear c5
                        try clear c6
                        try clear c6b0
                        try clear p6
                        try clear c8
                        try clear c9
                        try clear c10
                        try clear c10b0
                        try clear c11
                        try clear c12
                        try clear c15
                        try clear c17
                        try clear c17b0
                        try clear c17b1
                        try clear c17b2
                        try clear c21
                        try clear c21b0
                        try clear c21b1
                        try clear c21b2
                        try clear c24
                        try clear c27
                        try clear c29
                        try clear c29b0
                        try clear c29b1
                        try clear c29b2
                        try clear c33
                        try clear c33b0
                        try clear c33b1
                        try clear c33b2
                        try clear c36
                        try clear hcz14_0
                        try clear hcz14_1
                        try clear hcz14_2
                        try clear hcz14_3
                        try clear hcz14_4
                        try clear hcz14_5
                        try clear hcz26_0
                        try clear hcz26_1
                        try clear hcz26_2
                        try clear hcz26_3
                        try clear hcz26_4
                        try clear hcz26_5
                        try clear hcz38_0
                        try clear hcz38_1
                        try clear hcz38_2
                        try clear hcz38_3
                        try clear hcz38_4
                        try clear hcz38_5
                        try clear hfz14_0
                        try clear hfz14_1
                        try clear hfz14_2
                        try clear hfz14_3
                        try clear hfz14_4
                        try clear hfz14_5
                        try clear hfz26_0
                        try clear hfz26_1
                        try clear hfz26_2
                        try clear hfz26_3
                        try clear hfz26_4
                        try clear hfz26_5
                        try clear hfz38_0
                        try clear hfz38_1
                        try clear hfz38_2
                        try clear hfz38_3
                        try clear hfz38_4
                        try clear hfz38_5
                        try clear p2
                        try clear p6
                        obtain ⟨kq, x40_36, rfl, HA, HJ36, BK176, HB⟩ := hcut
                        cases kq with
                        | zero => exact absurd HA.out (by simp [escritoirelaw05_PlanCounts.j4])
                        | succ kj36 =>
                          have H := HA.out
                          clear HA
                          simp only [escritoirelaw05_PlanCounts.j4] at H
                          by_cases c39 : x40_36 = true
                          · subst c39
                            have H1 : ((plan_Open.f kj36 x5_1).bind fun t183 => (if 2 = 2 then (if (t183 != true) = true then (some false) else (escritoirelaw05_PlanCounts.l0 kj36 (wrap64 (Int.tmod (IntKind.u64.wrap (a0)) 96)) (wrap64 (x4_1 + 1)) (wrap64 (x5_1 + 1)) x177000_1 x177001_1 (wrap64 (x177002_1 + 1)) x177003_1 x177004_1 x177005_1)) else (if 2 = 3 then (if (t183 != true) = true then (some false) else (escritoirelaw05_PlanCounts.l0 kj36 (wrap64 (Int.tmod (IntKind.u64.wrap (a0)) 96)) (wrap64 (x4_1 + 1)) (wrap64 (x5_1 + 1)) x177000_1 x177001_1 (wrap64 (x177002_1 + 1)) x177003_1 x177004_1 x177005_1)) else (if (t183 != false) = true then (some false) else (escritoirelaw05_PlanCounts.l0 kj36 (wrap64 (Int.tmod (IntKind.u64.wrap (a0)) 96)) (wrap64 (x4_1 + 1)) (wrap64 (x5_1 + 1)) x177000_1 x177001_1 (wrap64 (x177002_1 + 1)) x177003_1 x177004_1 x177005_1))))) = some r := by rw [if_pos rfl] at H; exact H
                            clear H
                            have H := H1
                            clear H1
                            replace H := Option.bind_eq_some_iff.mp H
                            obtain ⟨t183, A400, H⟩ := H
                            replace H : (if 2 = 2 then (if (t183 != true) = true then (some false) else (escritoirelaw05_PlanCounts.l0 kj36 (wrap64 (Int.tmod (IntKind.u64.wrap (a0)) 96)) (wrap64 (x4_1 + 1)) (wrap64 (x5_1 + 1)) x177000_1 x177001_1 (wrap64 (x177002_1 + 1)) x177003_1 x177004_1 x177005_1)) else (if 2 = 3 then (if (t183 != true) = true then (some false) else (escritoirelaw05_PlanCounts.l0 kj36 (wrap64 (Int.tmod (IntKind.u64.wrap (a0)) 96)) (wrap64 (x4_1 + 1)) (wrap64 (x5_1 + 1)) x177000_1 x177001_1 (wrap64 (x177002_1 + 1)) x177003_1 x177004_1 x177005_1)) else (if (t183 != false) = true then (some false) else (escritoirelaw05_PlanCounts.l0 kj36 (wrap64 (Int.tmod (IntKind.u64.wrap (a0)) 96)) (wrap64 (x4_1 + 1)) (wrap64 (x5_1 + 1)) x177000_1 x177001_1 (wrap64 (x177002_1 + 1)) x177003_1 x177004_1 x177005_1)))) = some r := H
                            have A40 := Aside0.mk A400
                            clear A400
                            have H1 : (if (t183 != true) = true then (some false) else (escritoirelaw05_PlanCounts.l0 kj36 (wrap64 (Int.tmod (IntKind.u64.wrap (a0)) 96)) (wrap64 (x4_1 + 1)) (wrap64 (x5_1 + 1)) x177000_1 x177001_1 (wrap64 (x177002_1 + 1)) x177003_1 x177004_1 x177005_1)) = some r := by rw [if_pos (by decide)] at H; exact H
                            clear H
                            have H := H1
                            clear H1
                            by_cases c41 : (t183 != true) = true
                            · rw [if_pos c41] at H
                              have c41b0 : (t183 != true) = true := c41
                              (try (have c41b1 : decide (t183 = true) = false := by simpa using c41))
                              (try (have c41b2 : (t183 == true) = false := by simpa using c41))
                              (try (have c41b3 : ¬ (t183 = true) := by simpa using c41))
                              clear c41
                              obtain rfl := Option.some.inj H
                              go_wp2_with (first | ((with_reducible refine gate_callee (f := 15) rfl ?_); refine goesL_ (some 44) rfl rfl Try.func15 (by kernel_rfl) rfl #[.int .i64 x5_1] rfl (by (try simp only [List.map_toArray, List.map_cons, List.map_nil]); first | done | rfl | (simp only [List.length_drop, List.length_take]; rfl)) ?_; (with_reducible refine (plan_Open.calls kj36 x5_1 t183 _ A40.out).mono ?_); rintro e w42 ⟨rfl, hb⟩; refine ⟨_, rfl, ?_⟩; have n0_ := Aside0.mk (blk_below (g := gb176) (o := .cells #[.int .i64 x177000_1, .int .i64 x177001_1, .int .i64 (wrap64 (x177002_1 + 1)), .int .i64 x177003_1, .int .i64 x177004_1, .int .i64 x177005_1] 32 (0, 0)) (by (with_reducible repeat (first | refine blk_drewN ?_ _ | refine blk_drew ?_ | refine blk_alloc ?_ _)); exact BK176.out) hb); have n1_ := Aside0.mk (below_step (by repeat (first | (with_reducible first | exact HB.out | apply below_alloc | apply pw_below_drewN | apply below_drew1 | refine below_set ?_ GE176.out) | exact HB.out)) hb); clear BK176; clear HB; have BK176 := n0_; have HB := n1_; clear n0_ n1_; (try clear hb); (try clear hb2); (try clear hk); (try clear hi)))
                              go_ret
                              exact ⟨by first | rfl | (simp [errW_none, errW_some] <;> rfl) | (simp [*, errW_none, errW_some] <;> rfl), by repeat (first | (with_reducible first | exact HB.out | apply below_alloc | apply pw_below_drewN | apply below_drew1 | refine below_set ?_ GE176.out) | exact HB.out)⟩
                            · rw [if_neg c41] at H
                              have c41b0 : (t183 != true) = false := by simpa using c41
                              (try (have c41b1 : decide (t183 = true) = true := by simpa using c41))
                              (try (have c41b2 : (t183 == true) = true := by simpa using c41))
                              clear c41
                              have H' := Aside0.mk H
                              clear H
                              go_wp2_with (first | ((with_reducible refine gate_callee (f := 15) rfl ?_); refine goesL_ (some 44) rfl rfl Try.func15 (by kernel_rfl) rfl #[.int .i64 x5_1] rfl (by (try simp only [List.map_toArray, List.map_cons, List.map_nil]); first | done | rfl | (simp only [List.length_drop, List.length_take]; rfl)) ?_; (with_reducible refine (plan_Open.calls kj36 x5_1 t183 _ A40.out).mono ?_); rintro e w43 ⟨rfl, hb⟩; refine ⟨_, rfl, ?_⟩; have n0_ := Aside0.mk (blk_below (g := gb176) (o := .cells #[.int .i64 x177000_1, .int .i64 x177001_1, .int .i64 (wrap64 (x177002_1 + 1)), .int .i64 x177003_1, .int .i64 x177004_1, .int .i64 x177005_1] 32 (0, 0)) (by (with_reducible repeat (first | refine blk_drewN ?_ _ | refine blk_drew ?_ | refine blk_alloc ?_ _)); exact BK176.out) hb); have n1_ := Aside0.mk (below_step (by repeat (first | (with_reducible first | exact HB.out | apply below_alloc | apply pw_below_drewN | apply below_drew1 | refine below_set ?_ GE176.out) | exact HB.out)) hb); clear BK176; clear HB; have BK176 := n0_; have HB := n1_; clear n0_ n1_; (try clear hb); (try clear hb2); (try clear hk); (try clear hi)))
                              go_roundg kj36
                              case measure => have := HK1.out; have := HJ7.out; have := HJ36.out; omega
                              case rel => exact ⟨(wrap64 (x4_1 + 1)), (wrap64 (x5_1 + 1)), (x177000_1), (x177001_1), ((wrap64 (x177002_1 + 1))), (x177003_1), (x177004_1), (x177005_1), (by first | rfl | (simp; done) | (simp [*]; done) | kernel_rfl), (by first | rfl | (simp; done) | (simp [*]; done) | kernel_rfl), H', ⟨by have := HK1.out; have := HJ7.out; have := HJ36.out; omega⟩, ⟨by (with_reducible repeat (first | refine blk_drewN ?_ _ | refine blk_drew ?_ | refine blk_alloc ?_ _)); exact BK176.out⟩, ⟨by repeat (first | (with_reducible first | exact HB.out | apply below_alloc | apply pw_below_drewN | apply below_drew1 | refine below_set ?_ GE176.out) | exact HB.out)⟩⟩
                          · replace c39 := Bool.eq_false_iff.mpr c39
                            subst c39
                            have H1 : ((plan_Open.f kj36 x5_1).bind fun t184 => (if 2 = 2 then (if (t184 != true) = true then (some false) else (escritoirelaw05_PlanCounts.l0 kj36 (wrap64 (Int.tmod (IntKind.u64.wrap (a0)) 96)) x4_1 (wrap64 (x5_1 + 1)) x177000_1 x177001_1 (wrap64 (x177002_1 + 1)) x177003_1 x177004_1 x177005_1)) else (if 2 = 3 then (if (t184 != true) = true then (some false) else (escritoirelaw05_PlanCounts.l0 kj36 (wrap64 (Int.tmod (IntKind.u64.wrap (a0)) 96)) x4_1 (wrap64 (x5_1 + 1)) x177000_1 x177001_1 (wrap64 (x177002_1 + 1)) x177003_1 x177004_1 x177005_1)) else (if (t184 != false) = true then (some false) else (escritoirelaw05_PlanCounts.l0 kj36 (wrap64 (Int.tmod (IntKind.u64.wrap (a0)) 96)) x4_1 (wrap64 (x5_1 + 1)) x177000_1 x177001_1 (wrap64 (x177002_1 + 1)) x177003_1 x177004_1 x177005_1))))) = some r := by rw [if_neg (show ¬ (false = true) by decide)] at H; exact H
                            clear H
                            have H := H1
                            clear H1
                            replace H := Option.bind_eq_some_iff.mp H
                            obtain ⟨t184, A440, H⟩ := H
                            replace H : (if 2 = 2 then (if (t184 != true) = true then (some false) else (escritoirelaw05_PlanCounts.l0 kj36 (wrap64 (Int.tmod (IntKind.u64.wrap (a0)) 96)) x4_1 (wrap64 (x5_1 + 1)) x177000_1 x177001_1 (wrap64 (x177002_1 + 1)) x177003_1 x177004_1 x177005_1)) else (if 2 = 3 then (if (t184 != true) = true then (some false) else (escritoirelaw05_PlanCounts.l0 kj36 (wrap64 (Int.tmod (IntKind.u64.wrap (a0)) 96)) x4_1 (wrap64 (x5_1 + 1)) x177000_1 x177001_1 (wrap64 (x177002_1 + 1)) x177003_1 x177004_1 x177005_1)) else (if (t184 != false) = true then (some false) else (escritoirelaw05_PlanCounts.l0 kj36 (wrap64 (Int.tmod (IntKind.u64.wrap (a0)) 96)) x4_1 (wrap64 (x5_1 + 1)) x177000_1 x177001_1 (wrap64 (x177002_1 + 1)) x177003_1 x177004_1 x177005_1)))) = some r := H
                            have A44 := Aside0.mk A440
                            clear A440
                            have H1 : (if (t184 != true) = true then (some false) else (escritoirelaw05_PlanCounts.l0 kj36 (wrap64 (Int.tmod (IntKind.u64.wrap (a0)) 96)) x4_1 (wrap64 (x5_1 + 1)) x177000_1 x177001_1 (wrap64 (x177002_1 + 1)) x177003_1 x177004_1 x177005_1)) = some r := by rw [if_pos (by decide)] at H; exact H
                            clear H
                            have H := H1
                            clear H1
                            by_cases c45 : (t184 != true) = true
                            · rw [if_pos c45] at H
                              have c45b0 : (t184 != true) = true := c45
                              (try (have c45b1 : decide (t184 = true) = false := by simpa using c45))
                              (try (have c45b2 : (t184 == true) = false := by simpa using c45))
                              (try (have c45b3 : ¬ (t184 = true) := by simpa using c45))
                              clear c45
                              obtain rfl := Option.some.inj H
                              go_wp2_with (first | ((with_reducible refine gate_callee (f := 15) rfl ?_); refine goesL_ (some 44) rfl rfl Try.func15 (by kernel_rfl) rfl #[.int .i64 x5_1] rfl (by (try simp only [List.map_toArray, List.map_cons, List.map_nil]); first | done | rfl | (simp only [List.length_drop, List.length_take]; rfl)) ?_; (with_reducible refine (plan_Open.calls kj36 x5_1 t184 _ A44.out).mono ?_); rintro e w46 ⟨rfl, hb⟩; refine ⟨_, rfl, ?_⟩; have n0_ := Aside0.mk (blk_below (g := gb176) (o := .cells #[.int .i64 x177000_1, .int .i64 x177001_1, .int .i64 (wrap64 (x177002_1 + 1)), .int .i64 x177003_1, .int .i64 x177004_1, .int .i64 x177005_1] 32 (0, 0)) (by (with_reducible repeat (first | refine blk_drewN ?_ _ | refine blk_drew ?_ | refine blk_alloc ?_ _)); exact BK176.out) hb); have n1_ := Aside0.mk (below_step (by repeat (first | (with_reducible first | exact HB.out | apply below_alloc | apply pw_below_drewN | apply below_drew1 | refine below_set ?_ GE176.out) | exact HB.out)) hb); clear BK176; clear HB; have BK176 := n0_; have HB := n1_; clear n0_ n1_; (try clear hb); (try clear hb2); (try clear hk); (try clear hi)))
                              go_ret
                              exact ⟨by first | rfl | (simp [errW_none, errW_some] <;> rfl) | (simp [*, errW_none, errW_some] <;> rfl), by repeat (first | (with_reducible first | exact HB.out | apply below_alloc | apply pw_below_drewN | apply below_drew1 | refine below_set ?_ GE176.out) | exact HB.out)⟩
                            · rw [if_neg c45] at H
                              have c45b0 : (t184 != true) = false := by simpa using c45
                              (try (have c45b1 : decide (t184 = true) = true := by simpa using c45))
                              (try (have c45b2 : (t184 == true) = true := by simpa using c45))
                              clear c45
                              have H' := Aside0.mk H
                              clear H
                              go_wp2_with (first | ((with_reducible refine gate_callee (f := 15) rfl ?_); refine goesL_ (some 44) rfl rfl Try.func15 (by kernel_rfl) rfl #[.int .i64 x5_1] rfl (by (try simp only [List.map_toArray, List.map_cons, List.map_nil]); first | done | rfl | (simp only [List.length_drop, List.length_take]; rfl)) ?_; (with_reducible refine (plan_Open.calls kj36 x5_1 t184 _ A44.out).mono ?_); rintro e w47 ⟨rfl, hb⟩; refine ⟨_, rfl, ?_⟩; have n0_ := Aside0.mk (blk_below (g := gb176) (o := .cells #[.int .i64 x177000_1, .int .i64 x177001_1, .int .i64 (wrap64 (x177002_1 + 1)), .int .i64 x177003_1, .int .i64 x177004_1, .int .i64 x177005_1] 32 (0, 0)) (by (with_reducible repeat (first | refine blk_drewN ?_ _ | refine blk_drew ?_ | refine blk_alloc ?_ _)); exact BK176.out) hb); have n1_ := Aside0.mk (below_step (by repeat (first | (with_reducible first | exact HB.out | apply below_alloc | apply pw_below_drewN | apply below_drew1 | refine below_set ?_ GE176.out) | exact HB.out)) hb); clear BK176; clear HB; have BK176 := n0_; have HB := n1_; clear n0_ n1_; (try clear hb); (try clear hb2); (try clear hk); (try clear hi)))
                              go_roundg kj36
                              case measure => have := HK1.out; have := HJ7.out; have := HJ36.out; omega
                              case rel => exact ⟨(x4_1), (wrap64 (x5_1 + 1)), (x177000_1), (x177001_1), ((wrap64 (x177002_1 + 1))), (x177003_1), (x177004_1), (x177005_1), (by first | rfl | (simp; done) | (simp [*]; done) | kernel_rfl), (by first | rfl | (simp; done) | (simp [*]; done) | kernel_rfl), H', ⟨by have := HK1.out; have := HJ7.out; have := HJ36.out; omega⟩, ⟨by (with_reducible repeat (first | refine blk_drewN ?_ _ | refine blk_drew ?_ | refine blk_alloc ?_ _)); exact BK176.out⟩, ⟨by repeat (first | (with_reducible first | exact HB.out | apply below_alloc | apply pw_below_drewN | apply below_drew1 | refine below_set ?_ GE176.out) | exact HB.out)⟩⟩
                    · rw [if_neg c36] at H
                      by_cases c48 : t177 = 3
                      · subst c48
                        have H1 : (if 3 = 5 then (escritoirelaw05_PlanCounts.j5 kj7 (wrap64 (Int.tmod (IntKind.u64.wrap (a0)) 96)) x4_1 x5_1 3 (t178 == (wrap64 (Int.tmod (IntKind.u64.wrap (a0)) 96))) x177000_1 x177001_1 x177002_1 (wrap64 (x177003_1 + 1)) x177004_1 x177005_1) else (escritoirelaw05_PlanCounts.j5 kj7 (wrap64 (Int.tmod (IntKind.u64.wrap (a0)) 96)) x4_1 x5_1 3 false x177000_1 x177001_1 x177002_1 (wrap64 (x177003_1 + 1)) x177004_1 x177005_1)) = some r := by rw [if_pos rfl] at H; exact H
                        clear H
                        have H := H1
                        clear H1
                        have HC49 := Aside0.mk H
                        clear H
                        have hcz50_0 : wc.cell? ⟨gb176, 0, none⟩ = some (.int .i64 x177000_1) := (blk_cell BK176.out 0).trans rfl
                        have hcz50_1 : wc.cell? ⟨gb176, 1, none⟩ = some (.int .i64 x177001_1) := (blk_cell BK176.out 1).trans rfl
                        have hcz50_2 : wc.cell? ⟨gb176, 2, none⟩ = some (.int .i64 x177002_1) := (blk_cell BK176.out 2).trans rfl
                        have hcz50_3 : wc.cell? ⟨gb176, 3, none⟩ = some (.int .i64 x177003_1) := (blk_cell BK176.out 3).trans rfl
                        have hcz50_4 : wc.cell? ⟨gb176, 4, none⟩ = some (.int .i64 x177004_1) := (blk_cell BK176.out 4).trans rfl
                        have hcz50_5 : wc.cell? ⟨gb176, 5, none⟩ = some (.int .i64 x177005_1) := (blk_cell BK176.out 5).trans rfl
                        have hfz50_0 := blk_frozen BK176.out 0
                        have hfz50_1 := blk_frozen BK176.out 1
                        have hfz50_2 := blk_frozen BK176.out 2
                        have hfz50_3 := blk_frozen BK176.out 3
                        have hfz50_4 := blk_frozen BK176.out 4
                        have hfz50_5 := blk_frozen BK176.out 5
                        go_upto_region 13 with (fail)
                        go_cut [40] (fun v40 wc => ∃ (kq : Nat) (x40_48 : Bool), v40 = .bool x40_48 ∧ Aside0 (escritoirelaw05_PlanCounts.j5 kq (wrap64 (Int.tmod (IntKind.u64.wrap (a0)) 96)) x4_1 x5_1 3 x40_48 x177000_1 x177001_1 x177002_1 (wrap64 (x177003_1 + 1)) x177004_1 x177005_1 = some r) ∧ Aside0 (kq ≤ kj7) ∧ Aside0 (wc.heap[gb176]? = some (.cells #[.int .i64 x177000_1, .int .i64 x177001_1, .int .i64 x177002_1, .int .i64 (wrap64 (x177003_1 + 1)), .int .i64 x177004_1, .int .i64 x177005_1] 32 (0, 0))) ∧ Aside0 (Below w.heap.size w wc))
                        case first =>
                          have H := HC49.out
                          clear HC49
                          have H1 : (escritoirelaw05_PlanCounts.j5 kj7 (wrap64 (Int.tmod (IntKind.u64.wrap (a0)) 96)) x4_1 x5_1 3 false x177000_1 x177001_1 x177002_1 (wrap64 (x177003_1 + 1)) x177004_1 x177005_1) = some r := by rw [if_neg (by decide)] at H; exact H
                          clear H
                          have H := H1
                          clear H1
                          have H' := Aside0.mk H
                          clear H
                          go_wp2
                          go_meet
                          case rel => exact ⟨_, (false), (by first | rfl | (simp; done) | (simp [*]; done) | kernel_rfl), H', ⟨by have := HK1.out; have := HJ7.out; first | omega | exact Nat.le_refl _⟩, ⟨by (with_reducible repeat (first | refine blk_drewN ?_ _ | refine blk_drew ?_ | refine blk_alloc ?_ _)); refine blk_put (cs := #[.int .i64 x177000_1, .int .i64 x177001_1, .int .i64 x177002_1, .int .i64 x177003_1, .int .i64 x177004_1, .int .i64 x177005_1]) ?_ 3 _ rfl; (with_reducible repeat (first | refine blk_drewN ?_ _ | refine blk_drew ?_ | refine blk_alloc ?_ _)); exact BK176.out⟩, ⟨by repeat (first | (with_reducible first | exact HB.out | apply below_alloc | apply pw_below_drewN | apply below_drew1 | refine below_set ?_ GE176.out) | exact HB.out)⟩⟩
                        case rest =>
                          clear HC49
                          try clear c1
                          try clear c2
                          try clear p2
                          try clear c3
                          try clear c4
                          try clear c5
                          try clear c6
                          try clear c6b0
                          try clear p6
                          try clear c8
                          try clear c9
                          try clear c10
                          try clear c10b0
                          try clear c11
                          try clear c12
                          try clear c15
                          try clear c17
                          try clear c17b0
                          try clear c17b1
                          try clear c17b2
                          try clear c21
                          try clear c21b0
                          try clear c21b1
                          try clear c21b2
                          try clear c24
                          try clear c27
                          try clear c29
                          try clear c29b0
                          try clear c29b1
                          try clear c29b2
                          try clear c33
                          try clear c33b0
                          try clear c33b1
                          try clear c33b2
                          try clear c36
                          try clear c39
                          try clear c41
                          try clear c41b0
                          try clear c41b1
                          try clear c41b2
                          try clear c45
                          try clear c45b0
                          try clear c45b1
                          try clear c45b2
                          try clear c48
                          try clear hcz14_0
                          try clear hcz14_1
                          try clear hcz14_2
                          try clear hcz14_3
                          try clear hcz14_4
                          try clear hcz14_5
                          try clear hcz26_0
                          try clear hcz26_1
                          try clear hcz26_2
                          try clear hcz26_3
                          try clear hcz26_4
                          try clear hcz26_5
                          try clear hcz38_0
                          try clear hcz38_1
                          try clear hcz38_2
                          try clear hcz38_3
                          try clear hcz38_4
                          try clear hcz38_5
                          try clear hcz50_0
                          try clear hcz50_1
                          try clear hcz50_2
                          try clear hcz50_3
                          try clear hcz50_4
                          try clear hcz50_5
                          try clear hfz14_0
                          try clear hfz14_1
                          try clear hfz14_2
                          try clear hfz14_3
                          try clear hfz14_4
                          try clear hfz14_5
                          try clear hfz26_0
                          try clear hfz26_1
                          try clear hfz26_2
                          try clear hfz26_3
                          try clear hfz26_4
                          try clear hfz26_5
                          try clear hfz38_0
                          try clear hfz38_1
                          try clear hfz38_2
                          try clear hfz38_3
                          try clear hfz38_4
                          try clear hfz38_5
                          try clear hfz50_0
                          try clear hfz50_1
                          try clear hfz50_2
                          try clear hfz50_3
                          try clear hfz50_4
                          try clear hfz50_5
                          try clear p2
                          try clear p6
                          obtain ⟨kq, x40_48, rfl, HA, HJ48, BK176, HB⟩ := hcut
                          cases kq with
                          | zero => exact absurd HA.out (by simp [escritoirelaw05_PlanCounts.j5])
                          | succ kj48 =>
                            have H := HA.out
                            clear HA
                            simp only [escritoirelaw05_PlanCounts.j5] at H
                            by_cases c51 : x40_48 = true
                            · subst c51
                              have H1 : ((plan_Open.f kj48 x5_1).bind fun t185 => (if 3 = 2 then (if (t185 != true) = true then (some false) else (escritoirelaw05_PlanCounts.l0 kj48 (wrap64 (Int.tmod (IntKind.u64.wrap (a0)) 96)) (wrap64 (x4_1 + 1)) (wrap64 (x5_1 + 1)) x177000_1 x177001_1 x177002_1 (wrap64 (x177003_1 + 1)) x177004_1 x177005_1)) else (if 3 = 3 then (if (t185 != true) = true then (some false) else (escritoirelaw05_PlanCounts.l0 kj48 (wrap64 (Int.tmod (IntKind.u64.wrap (a0)) 96)) (wrap64 (x4_1 + 1)) (wrap64 (x5_1 + 1)) x177000_1 x177001_1 x177002_1 (wrap64 (x177003_1 + 1)) x177004_1 x177005_1)) else (if (t185 != false) = true then (some false) else (escritoirelaw05_PlanCounts.l0 kj48 (wrap64 (Int.tmod (IntKind.u64.wrap (a0)) 96)) (wrap64 (x4_1 + 1)) (wrap64 (x5_1 + 1)) x177000_1 x177001_1 x177002_1 (wrap64 (x177003_1 + 1)) x177004_1 x177005_1))))) = some r := by rw [if_pos rfl] at H; exact H
                              clear H
                              have H := H1
                              clear H1
                              replace H := Option.bind_eq_some_iff.mp H
                              obtain ⟨t185, A520, H⟩ := H
                              replace H : (if 3 = 2 then (if (t185 != true) = true then (some false) else (escritoirelaw05_PlanCounts.l0 kj48 (wrap64 (Int.tmod (IntKind.u64.wrap (a0)) 96)) (wrap64 (x4_1 + 1)) (wrap64 (x5_1 + 1)) x177000_1 x177001_1 x177002_1 (wrap64 (x177003_1 + 1)) x177004_1 x177005_1)) else (if 3 = 3 then (if (t185 != true) = true then (some false) else (escritoirelaw05_PlanCounts.l0 kj48 (wrap64 (Int.tmod (IntKind.u64.wrap (a0)) 96)) (wrap64 (x4_1 + 1)) (wrap64 (x5_1 + 1)) x177000_1 x177001_1 x177002_1 (wrap64 (x177003_1 + 1)) x177004_1 x177005_1)) else (if (t185 != false) = true then (some false) else (escritoirelaw05_PlanCounts.l0 kj48 (wrap64 (Int.tmod (IntKind.u64.wrap (a0)) 96)) (wrap64 (x4_1 + 1)) (wrap64 (x5_1 + 1)) x177000_1 x177001_1 x177002_1 (wrap64 (x177003_1 + 1)) x177004_1 x177005_1)))) = some r := H
                              have A52 := Aside0.mk A520
                              clear A520
                              have H1 : (if 3 = 3 then (if (t185 != true) = true then (some false) else (escritoirelaw05_PlanCounts.l0 kj48 (wrap64 (Int.tmod (IntKind.u64.wrap (a0)) 96)) (wrap64 (x4_1 + 1)) (wrap64 (x5_1 + 1)) x177000_1 x177001_1 x177002_1 (wrap64 (x177003_1 + 1)) x177004_1 x177005_1)) else (if (t185 != false) = true then (some false) else (escritoirelaw05_PlanCounts.l0 kj48 (wrap64 (Int.tmod (IntKind.u64.wrap (a0)) 96)) (wrap64 (x4_1 + 1)) (wrap64 (x5_1 + 1)) x177000_1 x177001_1 x177002_1 (wrap64 (x177003_1 + 1)) x177004_1 x177005_1))) = some r := by rw [if_neg (by decide)] at H; exact H
                              clear H
                              have H := H1
                              clear H1
                              have H1 : (if (t185 != true) = true then (some false) else (escritoirelaw05_PlanCounts.l0 kj48 (wrap64 (Int.tmod (IntKind.u64.wrap (a0)) 96)) (wrap64 (x4_1 + 1)) (wrap64 (x5_1 + 1)) x177000_1 x177001_1 x177002_1 (wrap64 (x177003_1 + 1)) x177004_1 x177005_1)) = some r := by rw [if_pos (by decide)] at H; exact H
                              clear H
                              have H := H1
                              clear H1
                              by_cases c53 : (t185 != true) = true
                              · rw [if_pos c53] at H
                                have c53b0 : (t185 != true) = true := c53
                                (try (have c53b1 : decide (t185 = true) = false := by simpa using c53))
                                (try (have c53b2 : (t185 == true) = false := by simpa using c53))
                                (try (have c53b3 : ¬ (t185 = true) := by simpa using c53))
                                clear c53
                                obtain rfl := Option.some.inj H
                                go_wp2_with (first | ((with_reducible refine gate_callee (f := 15) rfl ?_); refine goesL_ (some 44) rfl rfl Try.func15 (by kernel_rfl) rfl #[.int .i64 x5_1] rfl (by (try simp only [List.map_toArray, List.map_cons, List.map_nil]); first | done | rfl | (simp only [List.length_drop, List.length_take]; rfl)) ?_; (with_reducible refine (plan_Open.calls kj48 x5_1 t185 _ A52.out).mono ?_); rintro e w54 ⟨rfl, hb⟩; refine ⟨_, rfl, ?_⟩; have n0_ := Aside0.mk (blk_below (g := gb176) (o := .cells #[.int .i64 x177000_1, .int .i64 x177001_1, .int .i64 x177002_1, .int .i64 (wrap64 (x177003_1 + 1)), .int .i64 x177004_1, .int .i64 x177005_1] 32 (0, 0)) (by (with_reducible repeat (first | refine blk_drewN ?_ _ | refine blk_drew ?_ | refine blk_alloc ?_ _)); exact BK176.out) hb); have n1_ := Aside0.mk (below_step (by repeat (first | (with_reducible first | exact HB.out | apply below_alloc | apply pw_below_drewN | apply below_drew1 | refine below_set ?_ GE176.out) | exact HB.out)) hb); clear BK176; clear HB; have BK176 := n0_; have HB := n1_; clear n0_ n1_; (try clear hb); (try clear hb2); (try clear hk); (try clear hi)))
                                go_ret
                                exact ⟨by first | rfl | (simp [errW_none, errW_some] <;> rfl) | (simp [*, errW_none, errW_some] <;> rfl), by repeat (first | (with_reducible first | exact HB.out | apply below_alloc | apply pw_below_drewN | apply below_drew1 | refine below_set ?_ GE176.out) | exact HB.out)⟩
                              · rw [if_neg c53] at H
                                have c53b0 : (t185 != true) = false := by simpa using c53
                                (try (have c53b1 : decide (t185 = true) = true := by simpa using c53))
                                (try (have c53b2 : (t185 == true) = true := by simpa using c53))
                                clear c53
                                have H' := Aside0.mk H
                                clear H
                                go_wp2_with (first | ((with_reducible refine gate_callee (f := 15) rfl ?_); refine goesL_ (some 44) rfl rfl Try.func15 (by kernel_rfl) rfl #[.int .i64 x5_1] rfl (by (try simp only [List.map_toArray, List.map_cons, List.map_nil]); first | done | rfl | (simp only [List.length_drop, List.length_take]; rfl)) ?_; (with_reducible refine (plan_Open.calls kj48 x5_1 t185 _ A52.out).mono ?_); rintro e w55 ⟨rfl, hb⟩; refine ⟨_, rfl, ?_⟩; have n0_ := Aside0.mk (blk_below (g := gb176) (o := .cells #[.int .i64 x177000_1, .int .i64 x177001_1, .int .i64 x177002_1, .int .i64 (wrap64 (x177003_1 + 1)), .int .i64 x177004_1, .int .i64 x177005_1] 32 (0, 0)) (by (with_reducible repeat (first | refine blk_drewN ?_ _ | refine blk_drew ?_ | refine blk_alloc ?_ _)); exact BK176.out) hb); have n1_ := Aside0.mk (below_step (by repeat (first | (with_reducible first | exact HB.out | apply below_alloc | apply pw_below_drewN | apply below_drew1 | refine below_set ?_ GE176.out) | exact HB.out)) hb); clear BK176; clear HB; have BK176 := n0_; have HB := n1_; clear n0_ n1_; (try clear hb); (try clear hb2); (try clear hk); (try clear hi)))
                                go_roundg kj48
                                case measure => have := HK1.out; have := HJ7.out; have := HJ48.out; omega
                                case rel => exact ⟨(wrap64 (x4_1 + 1)), (wrap64 (x5_1 + 1)), (x177000_1), (x177001_1), (x177002_1), ((wrap64 (x177003_1 + 1))), (x177004_1), (x177005_1), (by first | rfl | (simp; done) | (simp [*]; done) | kernel_rfl), (by first | rfl | (simp; done) | (simp [*]; done) | kernel_rfl), H', ⟨by have := HK1.out; have := HJ7.out; have := HJ48.out; omega⟩, ⟨by (with_reducible repeat (first | refine blk_drewN ?_ _ | refine blk_drew ?_ | refine blk_alloc ?_ _)); exact BK176.out⟩, ⟨by repeat (first | (with_reducible first | exact HB.out | apply below_alloc | apply pw_below_drewN | apply below_drew1 | refine below_set ?_ GE176.out) | exact HB.out)⟩⟩
                            · replace c51 := Bool.eq_false_iff.mpr c51
                              subst c51
                              have H1 : ((plan_Open.f kj48 x5_1).bind fun t186 => (if 3 = 2 then (if (t186 != true) = true then (some false) else (escritoirelaw05_PlanCounts.l0 kj48 (wrap64 (Int.tmod (IntKind.u64.wrap (a0)) 96)) x4_1 (wrap64 (x5_1 + 1)) x177000_1 x177001_1 x177002_1 (wrap64 (x177003_1 + 1)) x177004_1 x177005_1)) else (if 3 = 3 then (if (t186 != true) = true then (some false) else (escritoirelaw05_PlanCounts.l0 kj48 (wrap64 (Int.tmod (IntKind.u64.wrap (a0)) 96)) x4_1 (wrap64 (x5_1 + 1)) x177000_1 x177001_1 x177002_1 (wrap64 (x177003_1 + 1)) x177004_1 x177005_1)) else (if (t186 != false) = true then (some false) else (escritoirelaw05_PlanCounts.l0 kj48 (wrap64 (Int.tmod (IntKind.u64.wrap (a0)) 96)) x4_1 (wrap64 (x5_1 + 1)) x177000_1 x177001_1 x177002_1 (wrap64 (x177003_1 + 1)) x177004_1 x177005_1))))) = some r := by rw [if_neg (show ¬ (false = true) by decide)] at H; exact H
                              clear H
                              have H := H1
                              clear H1
                              replace H := Option.bind_eq_some_iff.mp H
                              obtain ⟨t186, A560, H⟩ := H
                              replace H : (if 3 = 2 then (if (t186 != true) = true then (some false) else (escritoirelaw05_PlanCounts.l0 kj48 (wrap64 (Int.tmod (IntKind.u64.wrap (a0)) 96)) x4_1 (wrap64 (x5_1 + 1)) x177000_1 x177001_1 x177002_1 (wrap64 (x177003_1 + 1)) x177004_1 x177005_1)) else (if 3 = 3 then (if (t186 != true) = true then (some false) else (escritoirelaw05_PlanCounts.l0 kj48 (wrap64 (Int.tmod (IntKind.u64.wrap (a0)) 96)) x4_1 (wrap64 (x5_1 + 1)) x177000_1 x177001_1 x177002_1 (wrap64 (x177003_1 + 1)) x177004_1 x177005_1)) else (if (t186 != false) = true then (some false) else (escritoirelaw05_PlanCounts.l0 kj48 (wrap64 (Int.tmod (IntKind.u64.wrap (a0)) 96)) x4_1 (wrap64 (x5_1 + 1)) x177000_1 x177001_1 x177002_1 (wrap64 (x177003_1 + 1)) x177004_1 x177005_1)))) = some r := H
                              have A56 := Aside0.mk A560
                              clear A560
                              have H1 : (if 3 = 3 then (if (t186 != true) = true then (some false) else (escritoirelaw05_PlanCounts.l0 kj48 (wrap64 (Int.tmod (IntKind.u64.wrap (a0)) 96)) x4_1 (wrap64 (x5_1 + 1)) x177000_1 x177001_1 x177002_1 (wrap64 (x177003_1 + 1)) x177004_1 x177005_1)) else (if (t186 != false) = true then (some false) else (escritoirelaw05_PlanCounts.l0 kj48 (wrap64 (Int.tmod (IntKind.u64.wrap (a0)) 96)) x4_1 (wrap64 (x5_1 + 1)) x177000_1 x177001_1 x177002_1 (wrap64 (x177003_1 + 1)) x177004_1 x177005_1))) = some r := by rw [if_neg (by decide)] at H; exact H
                              clear H
                              have H := H1
                              clear H1
                              have H1 : (if (t186 != true) = true then (some false) else (escritoirelaw05_PlanCounts.l0 kj48 (wrap64 (Int.tmod (IntKind.u64.wrap (a0)) 96)) x4_1 (wrap64 (x5_1 + 1)) x177000_1 x177001_1 x177002_1 (wrap64 (x177003_1 + 1)) x177004_1 x177005_1)) = some r := by rw [if_pos (by decide)] at H; exact H
                              clear H
                              have H := H1
                              clear H1
                              by_cases c57 : (t186 != true) = true
                              · rw [if_pos c57] at H
                                have c57b0 : (t186 != true) = true := c57
                                (try (have c57b1 : decide (t186 = true) = false := by simpa using c57))
                                (try (have c57b2 : (t186 == true) = false := by simpa using c57))
                                (try (have c57b3 : ¬ (t186 = true) := by simpa using c57))
                                clear c57
                                obtain rfl := Option.some.inj H
                                go_wp2_with (first | ((with_reducible refine gate_callee (f := 15) rfl ?_); refine goesL_ (some 44) rfl rfl Try.func15 (by kernel_rfl) rfl #[.int .i64 x5_1] rfl (by (try simp only [List.map_toArray, List.map_cons, List.map_nil]); first | done | rfl | (simp only [List.length_drop, List.length_take]; rfl)) ?_; (with_reducible refine (plan_Open.calls kj48 x5_1 t186 _ A56.out).mono ?_); rintro e w58 ⟨rfl, hb⟩; refine ⟨_, rfl, ?_⟩; have n0_ := Aside0.mk (blk_below (g := gb176) (o := .cells #[.int .i64 x177000_1, .int .i64 x177001_1, .int .i64 x177002_1, .int .i64 (wrap64 (x177003_1 + 1)), .int .i64 x177004_1, .int .i64 x177005_1] 32 (0, 0)) (by (with_reducible repeat (first | refine blk_drewN ?_ _ | refine blk_drew ?_ | refine blk_alloc ?_ _)); exact BK176.out) hb); have n1_ := Aside0.mk (below_step (by repeat (first | (with_reducible first | exact HB.out | apply below_alloc | apply pw_below_drewN | apply below_drew1 | refine below_set ?_ GE176.out) | exact HB.out)) hb); clear BK176; clear HB; have BK176 := n0_; have HB := n1_; clear n0_ n1_; (try clear hb); (try clear hb2); (try clear hk); (try clear hi)))
                                go_ret
                                exact ⟨by first | rfl | (simp [errW_none, errW_some] <;> rfl) | (simp [*, errW_none, errW_some] <;> rfl), by repeat (first | (with_reducible first | exact HB.out | apply below_alloc | apply pw_below_drewN | apply below_drew1 | refine below_set ?_ GE176.out) | exact HB.out)⟩
                              · rw [if_neg c57] at H
                                have c57b0 : (t186 != true) = false := by simpa using c57
                                (try (have c57b1 : decide (t186 = true) = true := by simpa using c57))
                                (try (have c57b2 : (t186 == true) = true := by simpa using c57))
                                clear c57
                                have H' := Aside0.mk H
                                clear H
                                go_wp2_with (first | ((with_reducible refine gate_callee (f := 15) rfl ?_); refine goesL_ (some 44) rfl rfl Try.func15 (by kernel_rfl) rfl #[.int .i64 x5_1] rfl (by (try simp only [List.map_toArray, List.map_cons, List.map_nil]); first | done | rfl | (simp only [List.length_drop, List.length_take]; rfl)) ?_; (with_reducible refine (plan_Open.calls kj48 x5_1 t186 _ A56.out).mono ?_); rintro e w59 ⟨rfl, hb⟩; refine ⟨_, rfl, ?_⟩; have n0_ := Aside0.mk (blk_below (g := gb176) (o := .cells #[.int .i64 x177000_1, .int .i64 x177001_1, .int .i64 x177002_1, .int .i64 (wrap64 (x177003_1 + 1)), .int .i64 x177004_1, .int .i64 x177005_1] 32 (0, 0)) (by (with_reducible repeat (first | refine blk_drewN ?_ _ | refine blk_drew ?_ | refine blk_alloc ?_ _)); exact BK176.out) hb); have n1_ := Aside0.mk (below_step (by repeat (first | (with_reducible first | exact HB.out | apply below_alloc | apply pw_below_drewN | apply below_drew1 | refine below_set ?_ GE176.out) | exact HB.out)) hb); clear BK176; clear HB; have BK176 := n0_; have HB := n1_; clear n0_ n1_; (try clear hb); (try clear hb2); (try clear hk); (try clear hi)))
                                go_roundg kj48
                                case measure => have := HK1.out; have := HJ7.out; have := HJ48.out; omega
                                case rel => exact ⟨(x4_1), (wrap64 (x5_1 + 1)), (x177000_1), (x177001_1), (x177002_1), ((wrap64 (x177003_1 + 1))), (x177004_1), (x177005_1), (by first | rfl | (simp; done) | (simp [*]; done) | kernel_rfl), (by first | rfl | (simp; done) | (simp [*]; done) | kernel_rfl), H', ⟨by have := HK1.out; have := HJ7.out; have := HJ48.out; omega⟩, ⟨by (with_reducible repeat (first | refine blk_drewN ?_ _ | refine blk_drew ?_ | refine blk_alloc ?_ _)); exact BK176.out⟩, ⟨by repeat (first | (with_reducible first | exact HB.out | apply below_alloc | apply pw_below_drewN | apply below_drew1 | refine below_set ?_ GE176.out) | exact HB.out)⟩⟩
                      · rw [if_neg c48] at H
                        by_cases c60 : t177 = 4
                        · subst c60
                          have H1 : (if 4 = 5 then (escritoirelaw05_PlanCounts.j6 kj7 (wrap64 (Int.tmod (IntKind.u64.wrap (a0)) 96)) x4_1 x5_1 4 (t178 == (wrap64 (Int.tmod (IntKind.u64.wrap (a0)) 96))) x177000_1 x177001_1 x177002_1 x177003_1 (wrap64 (x177004_1 + 1)) x177005_1) else (escritoirelaw05_PlanCounts.j6 kj7 (wrap64 (Int.tmod (IntKind.u64.wrap (a0)) 96)) x4_1 x5_1 4 false x177000_1 x177001_1 x177002_1 x177003_1 (wrap64 (x177004_1 + 1)) x177005_1)) = some r := by rw [if_pos rfl] at H; exact H
                          clear H
                          have H := H1
                          clear H1
                          have HC61 := Aside0.mk H
                          clear H
                          have hcz62_0 : wc.cell? ⟨gb176, 0, none⟩ = some (.int .i64 x177000_1) := (blk_cell BK176.out 0).trans rfl
                          have hcz62_1 : wc.cell? ⟨gb176, 1, none⟩ = some (.int .i64 x177001_1) := (blk_cell BK176.out 1).trans rfl
                          have hcz62_2 : wc.cell? ⟨gb176, 2, none⟩ = some (.int .i64 x177002_1) := (blk_cell BK176.out 2).trans rfl
                          have hcz62_3 : wc.cell? ⟨gb176, 3, none⟩ = some (.int .i64 x177003_1) := (blk_cell BK176.out 3).trans rfl
                          have hcz62_4 : wc.cell? ⟨gb176, 4, none⟩ = some (.int .i64 x177004_1) := (blk_cell BK176.out 4).trans rfl
                          have hcz62_5 : wc.cell? ⟨gb176, 5, none⟩ = some (.int .i64 x177005_1) := (blk_cell BK176.out 5).trans rfl
                          have hfz62_0 := blk_frozen BK176.out 0
                          have hfz62_1 := blk_frozen BK176.out 1
                          have hfz62_2 := blk_frozen BK176.out 2
                          have hfz62_3 := blk_frozen BK176.out 3
                          have hfz62_4 := blk_frozen BK176.out 4
                          have hfz62_5 := blk_frozen BK176.out 5
                          go_upto_region 13 with (fail)
                          go_cut [40] (fun v40 wc => ∃ (kq : Nat) (x40_60 : Bool), v40 = .bool x40_60 ∧ Aside0 (escritoirelaw05_PlanCounts.j6 kq (wrap64 (Int.tmod (IntKind.u64.wrap (a0)) 96)) x4_1 x5_1 4 x40_60 x177000_1 x177001_1 x177002_1 x177003_1 (wrap64 (x177004_1 + 1)) x177005_1 = some r) ∧ Aside0 (kq ≤ kj7) ∧ Aside0 (wc.heap[gb176]? = some (.cells #[.int .i64 x177000_1, .int .i64 x177001_1, .int .i64 x177002_1, .int .i64 x177003_1, .int .i64 (wrap64 (x177004_1 + 1)), .int .i64 x177005_1] 32 (0, 0))) ∧ Aside0 (Below w.heap.size w wc))
                          case first =>
                            have H := HC61.out
                            clear HC61
                            have H1 : (escritoirelaw05_PlanCounts.j6 kj7 (wrap64 (Int.tmod (IntKind.u64.wrap (a0)) 96)) x4_1 x5_1 4 false x177000_1 x177001_1 x177002_1 x177003_1 (wrap64 (x177004_1 + 1)) x177005_1) = some r := by rw [if_neg (by decide)] at H; exact H
                            clear H
                            have H := H1
                            clear H1
                            have H' := Aside0.mk H
                            clear H
                            go_wp2
                            go_meet
                            case rel => exact ⟨_, (false), (by first | rfl | (simp; done) | (simp [*]; done) | kernel_rfl), H', ⟨by have := HK1.out; have := HJ7.out; first | omega | exact Nat.le_refl _⟩, ⟨by (with_reducible repeat (first | refine blk_drewN ?_ _ | refine blk_drew ?_ | refine blk_alloc ?_ _)); refine blk_put (cs := #[.int .i64 x177000_1, .int .i64 x177001_1, .int .i64 x177002_1, .int .i64 x177003_1, .int .i64 x177004_1, .int .i64 x177005_1]) ?_ 4 _ rfl; (with_reducible repeat (first | refine blk_drewN ?_ _ | refine blk_drew ?_ | refine blk_alloc ?_ _)); exact BK176.out⟩, ⟨by repeat (first | (with_reducible first | exact HB.out | apply below_alloc | apply pw_below_drewN | apply below_drew1 | refine below_set ?_ GE176.out) | exact HB.out)⟩⟩
                          case rest =>
                            clear HC61
                            try clear c1
                            try clear c2
                            try clear p2
                            try clear c3
                            try clear c4
                            try clear c5
                            try clear c6
                            try clear c6b0
                            try clear p6
                            try clear c8
                            try clear c9
                            try clear c10
                            try clear c10b0
                            try clear c11
                            try clear c12
                            try clear c15
                            try clear c17
                            try clear c17b0
                            try clear c17b1
                            try clear c17b2
                            try clear c21
                            try clear c21b0
                            try clear c21b1
                            try clear c21b2
                            try clear c24
                            try clear c27
                            try clear c29
                            try clear c29b0
                            try clear c29b1
                            try clear c29b2
                            try clear c33
                            try clear c33b0
                            try clear c33b1
                            try clear c33b2
                            try clear c36
                            try clear c39
                            try clear c41
                            try clear c41b0
                            try clear c41b1
                            try clear c41b2
                            try clear c45
                            try clear c45b0
                            try clear c45b1
                            try clear c45b2
                            try clear c48
                            try clear c51
                            try clear c53
                            try clear c53b0
                            try clear c53b1
                            try clear c53b2
                            try clear c57
                            try clear c57b0
                            try clear c57b1
                            try clear c57b2
                            try clear c60
                            try clear hcz14_0
                            try clear hcz14_1
                            try clear hcz14_2
                            try clear hcz14_3
                            try clear hcz14_4
                            try clear hcz14_5
                            try clear hcz26_0
                            try clear hcz26_1
                            try clear hcz26_2
                            try clear hcz26_3
                            try clear hcz26_4
                            try clear hcz26_5
                            try clear hcz38_0
                            try clear hcz38_1
                            try clear hcz38_2
                            try clear hcz38_3
                            try clear hcz38_4
                            try clear hcz38_5
                            try clear hcz50_0
                            try clear hcz50_1
                            try clear hcz50_2
                            try clear hcz50_3
                            try clear hcz50_4
                            try clear hcz50_5
                            try clear hcz62_0
                            try clear hcz62_1
                            try clear hcz62_2
                            try clear hcz62_3
                            try clear hcz62_4
                            try clear hcz62_5
                            try clear hfz14_0
                            try clear hfz14_1
                            try clear hfz14_2
                            try clear hfz14_3
                            try clear hfz14_4
                            try clear hfz14_5
                            try clear hfz26_0
                            try clear hfz26_1
                            try clear hfz26_2
                            try clear hfz26_3
                            try clear hfz26_4
                            try clear hfz26_5
                            try clear hfz38_0
                            try clear hfz38_1
                            try clear hfz38_2
                            try clear hfz38_3
                            try clear hfz38_4
                            try clear hfz38_5
                            try clear hfz50_0
                            try clear hfz50_1
                            try clear hfz50_2
                            try clear hfz50_3
                            try clear hfz50_4
                            try clear hfz50_5
                            try clear hfz62_0
                            try clear hfz62_1
                            try clear hfz62_2
                            try clear hfz62_3
                            try clear hfz62_4
                            try clear hfz62_5
                            try clear p2
                            try clear p6
                            obtain ⟨kq, x40_60, rfl, HA, HJ60, BK176, HB⟩ := hcut
                            cases kq with
                            | zero => exact absurd HA.out (by simp [escritoirelaw05_PlanCounts.j6])
                            | succ kj60 =>
                              have H := HA.out
                              clear HA
                              simp only [escritoirelaw05_PlanCounts.j6] at H
                              by_cases c63 : x40_60 = true
                              · subst c63
                                have H1 : ((plan_Open.f kj60 x5_1).bind fun t187 => (if 4 = 2 then (if (t187 != true) = true then (some false) else (escritoirelaw05_PlanCounts.l0 kj60 (wrap64 (Int.tmod (IntKind.u64.wrap (a0)) 96)) (wrap64 (x4_1 + 1)) (wrap64 (x5_1 + 1)) x177000_1 x177001_1 x177002_1 x177003_1 (wrap64 (x177004_1 + 1)) x177005_1)) else (if 4 = 3 then (if (t187 != true) = true then (some false) else (escritoirelaw05_PlanCounts.l0 kj60 (wrap64 (Int.tmod (IntKind.u64.wrap (a0)) 96)) (wrap64 (x4_1 + 1)) (wrap64 (x5_1 + 1)) x177000_1 x177001_1 x177002_1 x177003_1 (wrap64 (x177004_1 + 1)) x177005_1)) else (if (t187 != false) = true then (some false) else (escritoirelaw05_PlanCounts.l0 kj60 (wrap64 (Int.tmod (IntKind.u64.wrap (a0)) 96)) (wrap64 (x4_1 + 1)) (wrap64 (x5_1 + 1)) x177000_1 x177001_1 x177002_1 x177003_1 (wrap64 (x177004_1 + 1)) x177005_1))))) = some r := by rw [if_pos rfl] at H; exact H
                                clear H
                                have H := H1
                                clear H1
                                replace H := Option.bind_eq_some_iff.mp H
                                obtain ⟨t187, A640, H⟩ := H
                                replace H : (if 4 = 2 then (if (t187 != true) = true then (some false) else (escritoirelaw05_PlanCounts.l0 kj60 (wrap64 (Int.tmod (IntKind.u64.wrap (a0)) 96)) (wrap64 (x4_1 + 1)) (wrap64 (x5_1 + 1)) x177000_1 x177001_1 x177002_1 x177003_1 (wrap64 (x177004_1 + 1)) x177005_1)) else (if 4 = 3 then (if (t187 != true) = true then (some false) else (escritoirelaw05_PlanCounts.l0 kj60 (wrap64 (Int.tmod (IntKind.u64.wrap (a0)) 96)) (wrap64 (x4_1 + 1)) (wrap64 (x5_1 + 1)) x177000_1 x177001_1 x177002_1 x177003_1 (wrap64 (x177004_1 + 1)) x177005_1)) else (if (t187 != false) = true then (some false) else (escritoirelaw05_PlanCounts.l0 kj60 (wrap64 (Int.tmod (IntKind.u64.wrap (a0)) 96)) (wrap64 (x4_1 + 1)) (wrap64 (x5_1 + 1)) x177000_1 x177001_1 x177002_1 x177003_1 (wrap64 (x177004_1 + 1)) x177005_1)))) = some r := H
                                have A64 := Aside0.mk A640
                                clear A640
                                have H1 : (if 4 = 3 then (if (t187 != true) = true then (some false) else (escritoirelaw05_PlanCounts.l0 kj60 (wrap64 (Int.tmod (IntKind.u64.wrap (a0)) 96)) (wrap64 (x4_1 + 1)) (wrap64 (x5_1 + 1)) x177000_1 x177001_1 x177002_1 x177003_1 (wrap64 (x177004_1 + 1)) x177005_1)) else (if (t187 != false) = true then (some false) else (escritoirelaw05_PlanCounts.l0 kj60 (wrap64 (Int.tmod (IntKind.u64.wrap (a0)) 96)) (wrap64 (x4_1 + 1)) (wrap64 (x5_1 + 1)) x177000_1 x177001_1 x177002_1 x177003_1 (wrap64 (x177004_1 + 1)) x177005_1))) = some r := by rw [if_neg (by decide)] at H; exact H
                                clear H
                                have H := H1
                                clear H1
                                have H1 : (if (t187 != false) = true then (some false) else (escritoirelaw05_PlanCounts.l0 kj60 (wrap64 (Int.tmod (IntKind.u64.wrap (a0)) 96)) (wrap64 (x4_1 + 1)) (wrap64 (x5_1 + 1)) x177000_1 x177001_1 x177002_1 x177003_1 (wrap64 (x177004_1 + 1)) x177005_1)) = some r := by rw [if_neg (by decide)] at H; exact H
                                clear H
                                have H := H1
                                clear H1
                                by_cases c65 : (t187 != false) = true
                                · rw [if_pos c65] at H
                                  have c65b0 : (t187 != false) = true := c65
                                  (try (have c65b1 : decide (t187 = false) = false := by simpa using c65))
                                  (try (have c65b2 : (t187 == false) = false := by simpa using c65))
                                  (try (have c65b3 : ¬ (t187 = false) := by simpa using c65))
                                  clear c65
                                  obtain rfl := Option.some.inj H
                                  go_wp2_with (first | ((with_reducible refine gate_callee (f := 15) rfl ?_); refine goesL_ (some 44) rfl rfl Try.func15 (by kernel_rfl) rfl #[.int .i64 x5_1] rfl (by (try simp only [List.map_toArray, List.map_cons, List.map_nil]); first | done | rfl | (simp only [List.length_drop, List.length_take]; rfl)) ?_; (with_reducible refine (plan_Open.calls kj60 x5_1 t187 _ A64.out).mono ?_); rintro e w66 ⟨rfl, hb⟩; refine ⟨_, rfl, ?_⟩; have n0_ := Aside0.mk (blk_below (g := gb176) (o := .cells #[.int .i64 x177000_1, .int .i64 x177001_1, .int .i64 x177002_1, .int .i64 x177003_1, .int .i64 (wrap64 (x177004_1 + 1)), .int .i64 x177005_1] 32 (0, 0)) (by (with_reducible repeat (first | refine blk_drewN ?_ _ | refine blk_drew ?_ | refine blk_alloc ?_ _)); exact BK176.out) hb); have n1_ := Aside0.mk (below_step (by repeat (first | (with_reducible first | exact HB.out | apply below_alloc | apply pw_below_drewN | apply below_drew1 | refine below_set ?_ GE176.out) | exact HB.out)) hb); clear BK176; clear HB; have BK176 := n0_; have HB := n1_; clear n0_ n1_; (try clear hb); (try clear hb2); (try clear hk); (try clear hi)))
                                  go_ret
                                  exact ⟨by first | rfl | (simp [errW_none, errW_some] <;> rfl) | (simp [*, errW_none, errW_some] <;> rfl), by repeat (first | (with_reducible first | exact HB.out | apply below_alloc | apply pw_below_drewN | apply below_drew1 | refine below_set ?_ GE176.out) | exact HB.out)⟩
                                · rw [if_neg c65] at H
                                  have c65b0 : (t187 != false) = false := by simpa using c65
                                  (try (have c65b1 : decide (t187 = false) = true := by simpa using c65))
                                  (try (have c65b2 : (t187 == false) = true := by simpa using c65))
                                  clear c65
                                  have H' := Aside0.mk H
                                  clear H
                                  go_wp2_with (first | ((with_reducible refine gate_callee (f := 15) rfl ?_); refine goesL_ (some 44) rfl rfl Try.func15 (by kernel_rfl) rfl #[.int .i64 x5_1] rfl (by (try simp only [List.map_toArray, List.map_cons, List.map_nil]); first | done | rfl | (simp only [List.length_drop, List.length_take]; rfl)) ?_; (with_reducible refine (plan_Open.calls kj60 x5_1 t187 _ A64.out).mono ?_); rintro e w67 ⟨rfl, hb⟩; refine ⟨_, rfl, ?_⟩; have n0_ := Aside0.mk (blk_below (g := gb176) (o := .cells #[.int .i64 x177000_1, .int .i64 x177001_1, .int .i64 x177002_1, .int .i64 x177003_1, .int .i64 (wrap64 (x177004_1 + 1)), .int .i64 x177005_1] 32 (0, 0)) (by (with_reducible repeat (first | refine blk_drewN ?_ _ | refine blk_drew ?_ | refine blk_alloc ?_ _)); exact BK176.out) hb); have n1_ := Aside0.mk (below_step (by repeat (first | (with_reducible first | exact HB.out | apply below_alloc | apply pw_below_drewN | apply below_drew1 | refine below_set ?_ GE176.out) | exact HB.out)) hb); clear BK176; clear HB; have BK176 := n0_; have HB := n1_; clear n0_ n1_; (try clear hb); (try clear hb2); (try clear hk); (try clear hi)))
                                  go_roundg kj60
                                  case measure => have := HK1.out; have := HJ7.out; have := HJ60.out; omega
                                  case rel => exact ⟨(wrap64 (x4_1 + 1)), (wrap64 (x5_1 + 1)), (x177000_1), (x177001_1), (x177002_1), (x177003_1), ((wrap64 (x177004_1 + 1))), (x177005_1), (by first | rfl | (simp; done) | (simp [*]; done) | kernel_rfl), (by first | rfl | (simp; done) | (simp [*]; done) | kernel_rfl), H', ⟨by have := HK1.out; have := HJ7.out; have := HJ60.out; omega⟩, ⟨by (with_reducible repeat (first | refine blk_drewN ?_ _ | refine blk_drew ?_ | refine blk_alloc ?_ _)); exact BK176.out⟩, ⟨by repeat (first | (with_reducible first | exact HB.out | apply below_alloc | apply pw_below_drewN | apply below_drew1 | refine below_set ?_ GE176.out) | exact HB.out)⟩⟩
                              · replace c63 := Bool.eq_false_iff.mpr c63
                                subst c63
                                have H1 : ((plan_Open.f kj60 x5_1).bind fun t188 => (if 4 = 2 then (if (t188 != true) = true then (some false) else (escritoirelaw05_PlanCounts.l0 kj60 (wrap64 (Int.tmod (IntKind.u64.wrap (a0)) 96)) x4_1 (wrap64 (x5_1 + 1)) x177000_1 x177001_1 x177002_1 x177003_1 (wrap64 (x177004_1 + 1)) x177005_1)) else (if 4 = 3 then (if (t188 != true) = true then (some false) else (escritoirelaw05_PlanCounts.l0 kj60 (wrap64 (Int.tmod (IntKind.u64.wrap (a0)) 96)) x4_1 (wrap64 (x5_1 + 1)) x177000_1 x177001_1 x177002_1 x177003_1 (wrap64 (x177004_1 + 1)) x177005_1)) else (if (t188 != false) = true then (some false) else (escritoirelaw05_PlanCounts.l0 kj60 (wrap64 (Int.tmod (IntKind.u64.wrap (a0)) 96)) x4_1 (wrap64 (x5_1 + 1)) x177000_1 x177001_1 x177002_1 x177003_1 (wrap64 (x177004_1 + 1)) x177005_1))))) = some r := by rw [if_neg (show ¬ (false = true) by decide)] at H; exact H
                                clear H
                                have H := H1
                                clear H1
                                replace H := Option.bind_eq_some_iff.mp H
                                obtain ⟨t188, A680, H⟩ := H
                                replace H : (if 4 = 2 then (if (t188 != true) = true then (some false) else (escritoirelaw05_PlanCounts.l0 kj60 (wrap64 (Int.tmod (IntKind.u64.wrap (a0)) 96)) x4_1 (wrap64 (x5_1 + 1)) x177000_1 x177001_1 x177002_1 x177003_1 (wrap64 (x177004_1 + 1)) x177005_1)) else (if 4 = 3 then (if (t188 != true) = true then (some false) else (escritoirelaw05_PlanCounts.l0 kj60 (wrap64 (Int.tmod (IntKind.u64.wrap (a0)) 96)) x4_1 (wrap64 (x5_1 + 1)) x177000_1 x177001_1 x177002_1 x177003_1 (wrap64 (x177004_1 + 1)) x177005_1)) else (if (t188 != false) = true then (some false) else (escritoirelaw05_PlanCounts.l0 kj60 (wrap64 (Int.tmod (IntKind.u64.wrap (a0)) 96)) x4_1 (wrap64 (x5_1 + 1)) x177000_1 x177001_1 x177002_1 x177003_1 (wrap64 (x177004_1 + 1)) x177005_1)))) = some r := H
                                have A68 := Aside0.mk A680
                                clear A680
                                have H1 : (if 4 = 3 then (if (t188 != true) = true then (some false) else (escritoirelaw05_PlanCounts.l0 kj60 (wrap64 (Int.tmod (IntKind.u64.wrap (a0)) 96)) x4_1 (wrap64 (x5_1 + 1)) x177000_1 x177001_1 x177002_1 x177003_1 (wrap64 (x177004_1 + 1)) x177005_1)) else (if (t188 != false) = true then (some false) else (escritoirelaw05_PlanCounts.l0 kj60 (wrap64 (Int.tmod (IntKind.u64.wrap (a0)) 96)) x4_1 (wrap64 (x5_1 + 1)) x177000_1 x177001_1 x177002_1 x177003_1 (wrap64 (x177004_1 + 1)) x177005_1))) = some r := by rw [if_neg (by decide)] at H; exact H
                                clear H
                                have H := H1
                                clear H1
                                have H1 : (if (t188 != false) = true then (some false) else (escritoirelaw05_PlanCounts.l0 kj60 (wrap64 (Int.tmod (IntKind.u64.wrap (a0)) 96)) x4_1 (wrap64 (x5_1 + 1)) x177000_1 x177001_1 x177002_1 x177003_1 (wrap64 (x177004_1 + 1)) x177005_1)) = some r := by rw [if_neg (by decide)] at H; exact H
                                clear H
                                have H := H1
                                clear H1
                                by_cases c69 : (t188 != false) = true
                                · rw [if_pos c69] at H
                                  have c69b0 : (t188 != false) = true := c69
                                  (try (have c69b1 : decide (t188 = false) = false := by simpa using c69))
                                  (try (have c69b2 : (t188 == false) = false := by simpa using c69))
                                  (try (have c69b3 : ¬ (t188 = false) := by simpa using c69))
                                  clear c69
                                  obtain rfl := Option.some.inj H
                                  go_wp2_with (first | ((with_reducible refine gate_callee (f := 15) rfl ?_); refine goesL_ (some 44) rfl rfl Try.func15 (by kernel_rfl) rfl #[.int .i64 x5_1] rfl (by (try simp only [List.map_toArray, List.map_cons, List.map_nil]); first | done | rfl | (simp only [List.length_drop, List.length_take]; rfl)) ?_; (with_reducible refine (plan_Open.calls kj60 x5_1 t188 _ A68.out).mono ?_); rintro e w70 ⟨rfl, hb⟩; refine ⟨_, rfl, ?_⟩; have n0_ := Aside0.mk (blk_below (g := gb176) (o := .cells #[.int .i64 x177000_1, .int .i64 x177001_1, .int .i64 x177002_1, .int .i64 x177003_1, .int .i64 (wrap64 (x177004_1 + 1)), .int .i64 x177005_1] 32 (0, 0)) (by (with_reducible repeat (first | refine blk_drewN ?_ _ | refine blk_drew ?_ | refine blk_alloc ?_ _)); exact BK176.out) hb); have n1_ := Aside0.mk (below_step (by repeat (first | (with_reducible first | exact HB.out | apply below_alloc | apply pw_below_drewN | apply below_drew1 | refine below_set ?_ GE176.out) | exact HB.out)) hb); clear BK176; clear HB; have BK176 := n0_; have HB := n1_; clear n0_ n1_; (try clear hb); (try clear hb2); (try clear hk); (try clear hi)))
                                  go_ret
                                  exact ⟨by first | rfl | (simp [errW_none, errW_some] <;> rfl) | (simp [*, errW_none, errW_some] <;> rfl), by repeat (first | (with_reducible first | exact HB.out | apply below_alloc | apply pw_below_drewN | apply below_drew1 | refine below_set ?_ GE176.out) | exact HB.out)⟩
                                · rw [if_neg c69] at H
                                  have c69b0 : (t188 != false) = false := by simpa using c69
                                  (try (have c69b1 : decide (t188 = false) = true := by simpa using c69))
                                  (try (have c69b2 : (t188 == false) = true := by simpa using c69))
                                  clear c69
                                  have H' := Aside0.mk H
                                  clear H
                                  go_wp2_with (first | ((with_reducible refine gate_callee (f := 15) rfl ?_); refine goesL_ (some 44) rfl rfl Try.func15 (by kernel_rfl) rfl #[.int .i64 x5_1] rfl (by (try simp only [List.map_toArray, List.map_cons, List.map_nil]); first | done | rfl | (simp only [List.length_drop, List.length_take]; rfl)) ?_; (with_reducible refine (plan_Open.calls kj60 x5_1 t188 _ A68.out).mono ?_); rintro e w71 ⟨rfl, hb⟩; refine ⟨_, rfl, ?_⟩; have n0_ := Aside0.mk (blk_below (g := gb176) (o := .cells #[.int .i64 x177000_1, .int .i64 x177001_1, .int .i64 x177002_1, .int .i64 x177003_1, .int .i64 (wrap64 (x177004_1 + 1)), .int .i64 x177005_1] 32 (0, 0)) (by (with_reducible repeat (first | refine blk_drewN ?_ _ | refine blk_drew ?_ | refine blk_alloc ?_ _)); exact BK176.out) hb); have n1_ := Aside0.mk (below_step (by repeat (first | (with_reducible first | exact HB.out | apply below_alloc | apply pw_below_drewN | apply below_drew1 | refine below_set ?_ GE176.out) | exact HB.out)) hb); clear BK176; clear HB; have BK176 := n0_; have HB := n1_; clear n0_ n1_; (try clear hb); (try clear hb2); (try clear hk); (try clear hi)))
                                  go_roundg kj60
                                  case measure => have := HK1.out; have := HJ7.out; have := HJ60.out; omega
                                  case rel => exact ⟨(x4_1), (wrap64 (x5_1 + 1)), (x177000_1), (x177001_1), (x177002_1), (x177003_1), ((wrap64 (x177004_1 + 1))), (x177005_1), (by first | rfl | (simp; done) | (simp [*]; done) | kernel_rfl), (by first | rfl | (simp; done) | (simp [*]; done) | kernel_rfl), H', ⟨by have := HK1.out; have := HJ7.out; have := HJ60.out; omega⟩, ⟨by (with_reducible repeat (first | refine blk_drewN ?_ _ | refine blk_drew ?_ | refine blk_alloc ?_ _)); exact BK176.out⟩, ⟨by repeat (first | (with_reducible first | exact HB.out | apply below_alloc | apply pw_below_drewN | apply below_drew1 | refine below_set ?_ GE176.out) | exact HB.out)⟩⟩
                        · rw [if_neg c60] at H
                          by_cases c72 : t177 = 5
                          · subst c72
                            have H1 : (if t178 = (wrap64 (Int.tmod (IntKind.u64.wrap (a0)) 96)) then ((plan_Open.f kj7 x5_1).bind fun t189 => (if (t189 != true) = true then (some false) else (escritoirelaw05_PlanCounts.l0 kj7 (wrap64 (Int.tmod (IntKind.u64.wrap (a0)) 96)) (wrap64 (x4_1 + 1)) (wrap64 (x5_1 + 1)) x177000_1 x177001_1 x177002_1 x177003_1 x177004_1 (wrap64 (x177005_1 + 1))))) else ((plan_Open.f kj7 x5_1).bind fun t190 => (if (t190 != true) = true then (some false) else (escritoirelaw05_PlanCounts.l0 kj7 (wrap64 (Int.tmod (IntKind.u64.wrap (a0)) 96)) x4_1 (wrap64 (x5_1 + 1)) x177000_1 x177001_1 x177002_1 x177003_1 x177004_1 (wrap64 (x177005_1 + 1)))))) = some r := by rw [if_pos rfl] at H; exact H
                            clear H
                            have H := H1
                            clear H1
                            by_cases c73 : t178 = (wrap64 (Int.tmod (IntKind.u64.wrap (a0)) 96))
                            · rw [if_pos c73] at H
                              have c73b0 : (t178 == (wrap64 (Int.tmod (IntKind.u64.wrap (a0)) 96))) = true := beq_iff_eq.mpr c73
                              have c73b1 : (t178 != (wrap64 (Int.tmod (IntKind.u64.wrap (a0)) 96))) = false := bne_eq_false_iff_eq.mpr c73
                              clear c73
                              replace H := Option.bind_eq_some_iff.mp H
                              obtain ⟨t189, A740, H⟩ := H
                              replace H : (if (t189 != true) = true then (some false) else (escritoirelaw05_PlanCounts.l0 kj7 (wrap64 (Int.tmod (IntKind.u64.wrap (a0)) 96)) (wrap64 (x4_1 + 1)) (wrap64 (x5_1 + 1)) x177000_1 x177001_1 x177002_1 x177003_1 x177004_1 (wrap64 (x177005_1 + 1)))) = some r := H
                              have A74 := Aside0.mk A740
                              clear A740
                              by_cases c75 : (t189 != true) = true
                              · rw [if_pos c75] at H
                                have c75b0 : (t189 != true) = true := c75
                                (try (have c75b1 : decide (t189 = true) = false := by simpa using c75))
                                (try (have c75b2 : (t189 == true) = false := by simpa using c75))
                                (try (have c75b3 : ¬ (t189 = true) := by simpa using c75))
                                clear c75
                                obtain rfl := Option.some.inj H
                                have hcz76_0 : wc.cell? ⟨gb176, 0, none⟩ = some (.int .i64 x177000_1) := (blk_cell BK176.out 0).trans rfl
                                have hcz76_1 : wc.cell? ⟨gb176, 1, none⟩ = some (.int .i64 x177001_1) := (blk_cell BK176.out 1).trans rfl
                                have hcz76_2 : wc.cell? ⟨gb176, 2, none⟩ = some (.int .i64 x177002_1) := (blk_cell BK176.out 2).trans rfl
                                have hcz76_3 : wc.cell? ⟨gb176, 3, none⟩ = some (.int .i64 x177003_1) := (blk_cell BK176.out 3).trans rfl
                                have hcz76_4 : wc.cell? ⟨gb176, 4, none⟩ = some (.int .i64 x177004_1) := (blk_cell BK176.out 4).trans rfl
                                have hcz76_5 : wc.cell? ⟨gb176, 5, none⟩ = some (.int .i64 x177005_1) := (blk_cell BK176.out 5).trans rfl
                                have hfz76_0 := blk_frozen BK176.out 0
                                have hfz76_1 := blk_frozen BK176.out 1
                                have hfz76_2 := blk_frozen BK176.out 2
                                have hfz76_3 := blk_frozen BK176.out 3
                                have hfz76_4 := blk_frozen BK176.out 4
                                have hfz76_5 := blk_frozen BK176.out 5
                                go_wp2_with (first | ((with_reducible refine gate_callee (f := 15) rfl ?_); refine goesL_ (some 44) rfl rfl Try.func15 (by kernel_rfl) rfl #[.int .i64 x5_1] rfl (by (try simp only [List.map_toArray, List.map_cons, List.map_nil]); first | done | rfl | (simp only [List.length_drop, List.length_take]; rfl)) ?_; (with_reducible refine (plan_Open.calls kj7 x5_1 t189 _ A74.out).mono ?_); rintro e w77 ⟨rfl, hb⟩; refine ⟨_, rfl, ?_⟩; have n0_ := Aside0.mk (blk_below (g := gb176) (o := .cells #[.int .i64 x177000_1, .int .i64 x177001_1, .int .i64 x177002_1, .int .i64 x177003_1, .int .i64 x177004_1, .int .i64 (wrap64 (x177005_1 + 1))] 32 (0, 0)) (by (with_reducible repeat (first | refine blk_drewN ?_ _ | refine blk_drew ?_ | refine blk_alloc ?_ _)); refine blk_put (cs := #[.int .i64 x177000_1, .int .i64 x177001_1, .int .i64 x177002_1, .int .i64 x177003_1, .int .i64 x177004_1, .int .i64 x177005_1]) ?_ 5 _ rfl; (with_reducible repeat (first | refine blk_drewN ?_ _ | refine blk_drew ?_ | refine blk_alloc ?_ _)); exact BK176.out) hb); have n1_ := Aside0.mk (below_step (by repeat (first | (with_reducible first | exact HB.out | apply below_alloc | apply pw_below_drewN | apply below_drew1 | refine below_set ?_ GE176.out) | exact HB.out)) hb); clear BK176; clear HB; have BK176 := n0_; have HB := n1_; clear n0_ n1_; (try clear hb); (try clear hb2); (try clear hk); (try clear hi)))
                                go_ret
                                exact ⟨by first | rfl | (simp [errW_none, errW_some] <;> rfl) | (simp [*, errW_none, errW_some] <;> rfl), by repeat (first | (with_reducible first | exact HB.out | apply below_alloc | apply pw_below_drewN | apply below_drew1 | refine below_set ?_ GE176.out) | exact HB.out)⟩
                              · rw [if_neg c75] at H
                                have c75b0 : (t189 != true) = false := by simpa using c75
                                (try (have c75b1 : decide (t189 = true) = true := by simpa using c75))
                                (try (have c75b2 : (t189 == true) = true := by simpa using c75))
                                clear c75
                                have H' := Aside0.mk H
                                clear H
                                have hcz78_0 : wc.cell? ⟨gb176, 0, none⟩ = some (.int .i64 x177000_1) := (blk_cell BK176.out 0).trans rfl
                                have hcz78_1 : wc.cell? ⟨gb176, 1, none⟩ = some (.int .i64 x177001_1) := (blk_cell BK176.out 1).trans rfl
                                have hcz78_2 : wc.cell? ⟨gb176, 2, none⟩ = some (.int .i64 x177002_1) := (blk_cell BK176.out 2).trans rfl
                                have hcz78_3 : wc.cell? ⟨gb176, 3, none⟩ = some (.int .i64 x177003_1) := (blk_cell BK176.out 3).trans rfl
                                have hcz78_4 : wc.cell? ⟨gb176, 4, none⟩ = some (.int .i64 x177004_1) := (blk_cell BK176.out 4).trans rfl
                                have hcz78_5 : wc.cell? ⟨gb176, 5, none⟩ = some (.int .i64 x177005_1) := (blk_cell BK176.out 5).trans rfl
                                have hfz78_0 := blk_frozen BK176.out 0
                                have hfz78_1 := blk_frozen BK176.out 1
                                have hfz78_2 := blk_frozen BK176.out 2
                                have hfz78_3 := blk_frozen BK176.out 3
                                have hfz78_4 := blk_frozen BK176.out 4
                                have hfz78_5 := blk_frozen BK176.out 5
                                go_wp2_with (first | ((with_reducible refine gate_callee (f := 15) rfl ?_); refine goesL_ (some 44) rfl rfl Try.func15 (by kernel_rfl) rfl #[.int .i64 x5_1] rfl (by (try simp only [List.map_toArray, List.map_cons, List.map_nil]); first | done | rfl | (simp only [List.length_drop, List.length_take]; rfl)) ?_; (with_reducible refine (plan_Open.calls kj7 x5_1 t189 _ A74.out).mono ?_); rintro e w79 ⟨rfl, hb⟩; refine ⟨_, rfl, ?_⟩; have n0_ := Aside0.mk (blk_below (g := gb176) (o := .cells #[.int .i64 x177000_1, .int .i64 x177001_1, .int .i64 x177002_1, .int .i64 x177003_1, .int .i64 x177004_1, .int .i64 (wrap64 (x177005_1 + 1))] 32 (0, 0)) (by (with_reducible repeat (first | refine blk_drewN ?_ _ | refine blk_drew ?_ | refine blk_alloc ?_ _)); refine blk_put (cs := #[.int .i64 x177000_1, .int .i64 x177001_1, .int .i64 x177002_1, .int .i64 x177003_1, .int .i64 x177004_1, .int .i64 x177005_1]) ?_ 5 _ rfl; (with_reducible repeat (first | refine blk_drewN ?_ _ | refine blk_drew ?_ | refine blk_alloc ?_ _)); exact BK176.out) hb); have n1_ := Aside0.mk (below_step (by repeat (first | (with_reducible first | exact HB.out | apply below_alloc | apply pw_below_drewN | apply below_drew1 | refine below_set ?_ GE176.out) | exact HB.out)) hb); clear BK176; clear HB; have BK176 := n0_; have HB := n1_; clear n0_ n1_; (try clear hb); (try clear hb2); (try clear hk); (try clear hi)))
                                go_roundg kj7
                                case measure => have := HK1.out; have := HJ7.out; omega
                                case rel => exact ⟨(wrap64 (x4_1 + 1)), (wrap64 (x5_1 + 1)), (x177000_1), (x177001_1), (x177002_1), (x177003_1), (x177004_1), (wrap64 (x177005_1 + 1)), (by first | rfl | (simp; done) | (simp [*]; done) | kernel_rfl), (by first | rfl | (simp; done) | (simp [*]; done) | kernel_rfl), H', ⟨by have := HK1.out; have := HJ7.out; omega⟩, ⟨by (with_reducible repeat (first | refine blk_drewN ?_ _ | refine blk_drew ?_ | refine blk_alloc ?_ _)); exact BK176.out⟩, ⟨by repeat (first | (with_reducible first | exact HB.out | apply below_alloc | apply pw_below_drewN | apply below_drew1 | refine below_set ?_ GE176.out) | exact HB.out)⟩⟩
                            · rw [if_neg c73] at H
                              have c73b0 : (t178 == (wrap64 (Int.tmod (IntKind.u64.wrap (a0)) 96))) = false := beq_eq_false_iff_ne.mpr c73
                              have c73b1 : (t178 != (wrap64 (Int.tmod (IntKind.u64.wrap (a0)) 96))) = true := bne_iff_ne.mpr c73
                              replace H := Option.bind_eq_some_iff.mp H
                              obtain ⟨t190, A800, H⟩ := H
                              replace H : (if (t190 != true) = true then (some false) else (escritoirelaw05_PlanCounts.l0 kj7 (wrap64 (Int.tmod (IntKind.u64.wrap (a0)) 96)) x4_1 (wrap64 (x5_1 + 1)) x177000_1 x177001_1 x177002_1 x177003_1 x177004_1 (wrap64 (x177005_1 + 1)))) = some r := H
                              have A80 := Aside0.mk A800
                              clear A800
                              by_cases c81 : (t190 != true) = true
                              · rw [if_pos c81] at H
                                have c81b0 : (t190 != true) = true := c81
                                (try (have c81b1 : decide (t190 = true) = false := by simpa using c81))
                                (try (have c81b2 : (t190 == true) = false := by simpa using c81))
                                (try (have c81b3 : ¬ (t190 = true) := by simpa using c81))
                                clear c81
                                obtain rfl := Option.some.inj H
                                have hcz82_0 : wc.cell? ⟨gb176, 0, none⟩ = some (.int .i64 x177000_1) := (blk_cell BK176.out 0).trans rfl
                                have hcz82_1 : wc.cell? ⟨gb176, 1, none⟩ = some (.int .i64 x177001_1) := (blk_cell BK176.out 1).trans rfl
                                have hcz82_2 : wc.cell? ⟨gb176, 2, none⟩ = some (.int .i64 x177002_1) := (blk_cell BK176.out 2).trans rfl
                                have hcz82_3 : wc.cell? ⟨gb176, 3, none⟩ = some (.int .i64 x177003_1) := (blk_cell BK176.out 3).trans rfl
                                have hcz82_4 : wc.cell? ⟨gb176, 4, none⟩ = some (.int .i64 x177004_1) := (blk_cell BK176.out 4).trans rfl
                                have hcz82_5 : wc.cell? ⟨gb176, 5, none⟩ = some (.int .i64 x177005_1) := (blk_cell BK176.out 5).trans rfl
                                have hfz82_0 := blk_frozen BK176.out 0
                                have hfz82_1 := blk_frozen BK176.out 1
                                have hfz82_2 := blk_frozen BK176.out 2
                                have hfz82_3 := blk_frozen BK176.out 3
                                have hfz82_4 := blk_frozen BK176.out 4
                                have hfz82_5 := blk_frozen BK176.out 5
                                go_wp2_with (first | ((with_reducible refine gate_callee (f := 15) rfl ?_); refine goesL_ (some 44) rfl rfl Try.func15 (by kernel_rfl) rfl #[.int .i64 x5_1] rfl (by (try simp only [List.map_toArray, List.map_cons, List.map_nil]); first | done | rfl | (simp only [List.length_drop, List.length_take]; rfl)) ?_; (with_reducible refine (plan_Open.calls kj7 x5_1 t190 _ A80.out).mono ?_); rintro e w83 ⟨rfl, hb⟩; refine ⟨_, rfl, ?_⟩; have n0_ := Aside0.mk (blk_below (g := gb176) (o := .cells #[.int .i64 x177000_1, .int .i64 x177001_1, .int .i64 x177002_1, .int .i64 x177003_1, .int .i64 x177004_1, .int .i64 (wrap64 (x177005_1 + 1))] 32 (0, 0)) (by (with_reducible repeat (first | refine blk_drewN ?_ _ | refine blk_drew ?_ | refine blk_alloc ?_ _)); refine blk_put (cs := #[.int .i64 x177000_1, .int .i64 x177001_1, .int .i64 x177002_1, .int .i64 x177003_1, .int .i64 x177004_1, .int .i64 x177005_1]) ?_ 5 _ rfl; (with_reducible repeat (first | refine blk_drewN ?_ _ | refine blk_drew ?_ | refine blk_alloc ?_ _)); exact BK176.out) hb); have n1_ := Aside0.mk (below_step (by repeat (first | (with_reducible first | exact HB.out | apply below_alloc | apply pw_below_drewN | apply below_drew1 | refine below_set ?_ GE176.out) | exact HB.out)) hb); clear BK176; clear HB; have BK176 := n0_; have HB := n1_; clear n0_ n1_; (try clear hb); (try clear hb2); (try clear hk); (try clear hi)))
                                go_ret
                                exact ⟨by first | rfl | (simp [errW_none, errW_some] <;> rfl) | (simp [*, errW_none, errW_some] <;> rfl), by repeat (first | (with_reducible first | exact HB.out | apply below_alloc | apply pw_below_drewN | apply below_drew1 | refine below_set ?_ GE176.out) | exact HB.out)⟩
                              · rw [if_neg c81] at H
                                have c81b0 : (t190 != true) = false := by simpa using c81
                                (try (have c81b1 : decide (t190 = true) = true := by simpa using c81))
                                (try (have c81b2 : (t190 == true) = true := by simpa using c81))
                                clear c81
                                have H' := Aside0.mk H
                                clear H
                                have hcz84_0 : wc.cell? ⟨gb176, 0, none⟩ = some (.int .i64 x177000_1) := (blk_cell BK176.out 0).trans rfl
                                have hcz84_1 : wc.cell? ⟨gb176, 1, none⟩ = some (.int .i64 x177001_1) := (blk_cell BK176.out 1).trans rfl
                                have hcz84_2 : wc.cell? ⟨gb176, 2, none⟩ = some (.int .i64 x177002_1) := (blk_cell BK176.out 2).trans rfl
                                have hcz84_3 : wc.cell? ⟨gb176, 3, none⟩ = some (.int .i64 x177003_1) := (blk_cell BK176.out 3).trans rfl
                                have hcz84_4 : wc.cell? ⟨gb176, 4, none⟩ = some (.int .i64 x177004_1) := (blk_cell BK176.out 4).trans rfl
                                have hcz84_5 : wc.cell? ⟨gb176, 5, none⟩ = some (.int .i64 x177005_1) := (blk_cell BK176.out 5).trans rfl
                                have hfz84_0 := blk_frozen BK176.out 0
                                have hfz84_1 := blk_frozen BK176.out 1
                                have hfz84_2 := blk_frozen BK176.out 2
                                have hfz84_3 := blk_frozen BK176.out 3
                                have hfz84_4 := blk_frozen BK176.out 4
                                have hfz84_5 := blk_frozen BK176.out 5
                                go_wp2_with (first | ((with_reducible refine gate_callee (f := 15) rfl ?_); refine goesL_ (some 44) rfl rfl Try.func15 (by kernel_rfl) rfl #[.int .i64 x5_1] rfl (by (try simp only [List.map_toArray, List.map_cons, List.map_nil]); first | done | rfl | (simp only [List.length_drop, List.length_take]; rfl)) ?_; (with_reducible refine (plan_Open.calls kj7 x5_1 t190 _ A80.out).mono ?_); rintro e w85 ⟨rfl, hb⟩; refine ⟨_, rfl, ?_⟩; have n0_ := Aside0.mk (blk_below (g := gb176) (o := .cells #[.int .i64 x177000_1, .int .i64 x177001_1, .int .i64 x177002_1, .int .i64 x177003_1, .int .i64 x177004_1, .int .i64 (wrap64 (x177005_1 + 1))] 32 (0, 0)) (by (with_reducible repeat (first | refine blk_drewN ?_ _ | refine blk_drew ?_ | refine blk_alloc ?_ _)); refine blk_put (cs := #[.int .i64 x177000_1, .int .i64 x177001_1, .int .i64 x177002_1, .int .i64 x177003_1, .int .i64 x177004_1, .int .i64 x177005_1]) ?_ 5 _ rfl; (with_reducible repeat (first | refine blk_drewN ?_ _ | refine blk_drew ?_ | refine blk_alloc ?_ _)); exact BK176.out) hb); have n1_ := Aside0.mk (below_step (by repeat (first | (with_reducible first | exact HB.out | apply below_alloc | apply pw_below_drewN | apply below_drew1 | refine below_set ?_ GE176.out) | exact HB.out)) hb); clear BK176; clear HB; have BK176 := n0_; have HB := n1_; clear n0_ n1_; (try clear hb); (try clear hb2); (try clear hk); (try clear hi)))
                                go_roundg kj7
                                case measure => have := HK1.out; have := HJ7.out; omega
                                case rel => exact ⟨(x4_1), (wrap64 (x5_1 + 1)), (x177000_1), (x177001_1), (x177002_1), (x177003_1), (x177004_1), (wrap64 (x177005_1 + 1)), (by first | rfl | (simp; done) | (simp [*]; done) | kernel_rfl), (by first | rfl | (simp; done) | (simp [*]; done) | kernel_rfl), H', ⟨by have := HK1.out; have := HJ7.out; omega⟩, ⟨by (with_reducible repeat (first | refine blk_drewN ?_ _ | refine blk_drew ?_ | refine blk_alloc ?_ _)); exact BK176.out⟩, ⟨by repeat (first | (with_reducible first | exact HB.out | apply below_alloc | apply pw_below_drewN | apply below_drew1 | refine below_set ?_ GE176.out) | exact HB.out)⟩⟩
                          · rw [if_neg c72] at H
                            exact absurd H (by simp)
        · rw [if_neg c6] at H
          have c6b0 : decide (x5_1 < 2830) = false := decide_eq_false c6
          clear c6
          by_cases c86 : (x177000_1 == 8 && (x177001_1 == 8 && (x177002_1 == 192 && (x177003_1 == 96 && (x177004_1 == 992 && (x177005_1 == 1536)))))) = true
          · rw [if_pos c86] at H
            have c86b0 : (x177000_1 == 8 && (x177001_1 == 8 && (x177002_1 == 192 && (x177003_1 == 96 && (x177004_1 == 992 && (x177005_1 == 1536)))))) = true := c86
            (try (have c86b1 : decide (x177000_1 = 8 && (x177001_1 == 8 && (x177002_1 == 192 && (x177003_1 == 96 && (x177004_1 == 992 && (x177005_1 == 1536)))))) = true := by simpa using c86))
            (try (have c86b2 : (x177000_1 == 8 && (x177001_1 == 8 && (x177002_1 == 192 && (x177003_1 == 96 && (x177004_1 == 992 && (x177005_1 == 1536)))))) = true := by simpa using c86))
            clear c86
            obtain rfl := Option.some.inj H
            have hcz87_0 : wr.cell? ⟨gb176, 0, none⟩ = some (.int .i64 x177000_1) := (blk_cell BK176.out 0).trans rfl
            have hcz87_1 : wr.cell? ⟨gb176, 1, none⟩ = some (.int .i64 x177001_1) := (blk_cell BK176.out 1).trans rfl
            have hcz87_2 : wr.cell? ⟨gb176, 2, none⟩ = some (.int .i64 x177002_1) := (blk_cell BK176.out 2).trans rfl
            have hcz87_3 : wr.cell? ⟨gb176, 3, none⟩ = some (.int .i64 x177003_1) := (blk_cell BK176.out 3).trans rfl
            have hcz87_4 : wr.cell? ⟨gb176, 4, none⟩ = some (.int .i64 x177004_1) := (blk_cell BK176.out 4).trans rfl
            have hcz87_5 : wr.cell? ⟨gb176, 5, none⟩ = some (.int .i64 x177005_1) := (blk_cell BK176.out 5).trans rfl
            have hfz87_0 := blk_frozen BK176.out 0
            have hfz87_1 := blk_frozen BK176.out 1
            have hfz87_2 := blk_frozen BK176.out 2
            have hfz87_3 := blk_frozen BK176.out 3
            have hfz87_4 := blk_frozen BK176.out 4
            have hfz87_5 := blk_frozen BK176.out 5
            go_wp2
            go_ret
            exact ⟨by first | rfl | (simp [errW_none, errW_some] <;> rfl) | (simp [*, errW_none, errW_some] <;> rfl), by repeat (first | (with_reducible first | exact HB.out | apply below_alloc | apply pw_below_drewN | apply below_drew1 | refine below_set ?_ GE176.out) | exact HB.out)⟩
          · rw [if_neg c86] at H
            have c86b0 : (x177000_1 == 8 && (x177001_1 == 8 && (x177002_1 == 192 && (x177003_1 == 96 && (x177004_1 == 992 && (x177005_1 == 1536)))))) = false := by simpa using c86
            (try (have c86b1 : decide (x177000_1 = 8 && (x177001_1 == 8 && (x177002_1 == 192 && (x177003_1 == 96 && (x177004_1 == 992 && (x177005_1 == 1536)))))) = false := by simpa using c86))
            (try (have c86b2 : (x177000_1 == 8 && (x177001_1 == 8 && (x177002_1 == 192 && (x177003_1 == 96 && (x177004_1 == 992 && (x177005_1 == 1536)))))) = false := by simpa using c86))
            (try (have c86b3 : ¬ (x177000_1 = 8 && (x177001_1 == 8 && (x177002_1 == 192 && (x177003_1 == 96 && (x177004_1 == 992 && (x177005_1 == 1536)))))) := by simpa using c86))
            clear c86
            obtain rfl := Option.some.inj H
            have hcz88_0 : wr.cell? ⟨gb176, 0, none⟩ = some (.int .i64 x177000_1) := (blk_cell BK176.out 0).trans rfl
            have hcz88_1 : wr.cell? ⟨gb176, 1, none⟩ = some (.int .i64 x177001_1) := (blk_cell BK176.out 1).trans rfl
            have hcz88_2 : wr.cell? ⟨gb176, 2, none⟩ = some (.int .i64 x177002_1) := (blk_cell BK176.out 2).trans rfl
            have hcz88_3 : wr.cell? ⟨gb176, 3, none⟩ = some (.int .i64 x177003_1) := (blk_cell BK176.out 3).trans rfl
            have hcz88_4 : wr.cell? ⟨gb176, 4, none⟩ = some (.int .i64 x177004_1) := (blk_cell BK176.out 4).trans rfl
            have hcz88_5 : wr.cell? ⟨gb176, 5, none⟩ = some (.int .i64 x177005_1) := (blk_cell BK176.out 5).trans rfl
            have hfz88_0 := blk_frozen BK176.out 0
            have hfz88_1 := blk_frozen BK176.out 1
            have hfz88_2 := blk_frozen BK176.out 2
            have hfz88_3 := blk_frozen BK176.out 3
            have hfz88_4 := blk_frozen BK176.out 4
            have hfz88_5 := blk_frozen BK176.out 5
            go_wp2
            go_ret
            exact ⟨by first | rfl | (simp [errW_none, errW_some] <;> rfl) | (simp [*, errW_none, errW_some] <;> rfl), by repeat (first | (with_reducible first | exact HB.out | apply below_alloc | apply pw_below_drewN | apply below_drew1 | refine below_set ?_ GE176.out) | exact HB.out)⟩
  · replace c3 := Bool.eq_false_iff.mpr c3
    subst c3
    have H1 : (some false) = some r := by rw [if_neg (show ¬ (false = true) by decide)] at H; exact H
    clear H
    have H := H1
    clear H1
    obtain rfl := Option.some.inj H
    go_enter Try.func5, Try.ntmps5
    go_wp2_with (first | ((with_reducible refine gate_callee (f := 8) rfl ?_); refine goesL_ (some 8) rfl rfl Try.func8 (by kernel_rfl) rfl #[] rfl (by (try simp only [List.map_toArray, List.map_cons, List.map_nil]); first | done | rfl | (simp only [List.length_drop, List.length_take]; rfl)) ?_; (with_reducible refine (escritoirelaw05_lives.calls k  false _ A2.out).mono ?_); rintro e w89 ⟨rfl, hb⟩; refine ⟨_, rfl, ?_⟩; have n0_ := Aside0.mk (below_step (by repeat (first | (with_reducible first | exact HB.out | apply below_alloc | apply pw_below_drewN | apply below_drew1) | exact HB.out)) hb); clear HB; have HB := n0_; clear n0_; (try clear hb); (try clear hb2); (try clear hk); (try clear hi)))
    go_ret
    exact ⟨by first | rfl | (simp [errW_none, errW_some] <;> rfl) | (simp [*, errW_none, errW_some] <;> rfl), by repeat (first | (with_reducible first | exact HB.out | apply below_alloc | apply pw_below_drewN | apply below_drew1) | exact HB.out)⟩

end Go.Proofs.Ytbiabamijodmiaa.Print
