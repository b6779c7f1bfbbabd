/- The law PlanWhole: each word is part of one thing; kinds and numbers rise from word to word. No condition. -/
import Derived.Test.YtbiabamijodmiaaPPlanWholex1
namespace Go.Proofs.Ytbiabamijodmiaa.Pure
open Go.RowKit Go.Proofs.Ytbiabamijodmiaa.PPlanWhole Go.Proofs.YtbiabamijodmiaaW.PrintWords Go.Proofs.YtbiabamijodmiaaW.PrintLast

namespace Whole
def P : List S45 := [⟨1, 0, 1, 8⟩, ⟨2, 8, 24, 8⟩, ⟨3, 200, 96, 1⟩, ⟨4, 296, 4, 248⟩, ⟨5, 1288, 96, 16⟩]
theorem parts_eq : plan_parts.f 7 = some P := by kernel_rfl
theorem lives_eq : escritoirelaw05_lives.f 7 = some true := by kernel_rfl
def What (a : Int) : Int × Int :=
  if a < 0 then (0, 0) else if a < 8 then (1, 0) else if a < 200 then (2, (a - 8) / 8) else if a < 296 then (3, a - 200) else
  if a < 1288 then (4, (a - 296) / 248) else if a < 2824 then (5, (a - 1288) / 16) else (0, 0)
theorem rd0 : rd_T45 P 0 = ⟨1, 0, 1, 8⟩ := rfl
theorem rd1 : rd_T45 P 1 = ⟨2, 8, 24, 8⟩ := rfl
theorem rd2 : rd_T45 P 2 = ⟨3, 200, 96, 1⟩ := rfl
theorem rd3 : rd_T45 P 3 = ⟨4, 296, 4, 248⟩ := rfl
theorem rd4 : rd_T45 P 4 = ⟨5, 1288, 96, 16⟩ := rfl
theorem e0 : plan_part_end.f 1 0 1 8 = some 8 := by kernel_rfl
theorem e1 : plan_part_end.f 2 8 24 8 = some 200 := by kernel_rfl
theorem e2 : plan_part_end.f 3 200 96 1 = some 296 := by kernel_rfl
theorem e3 : plan_part_end.f 4 296 4 248 = some 1288 := by kernel_rfl
theorem e4 : plan_part_end.f 5 1288 96 16 = some 2824 := by kernel_rfl
theorem w1 : wrap64 (0 + 1) = 1 := by kernel_rfl
theorem w2 : wrap64 (1 + 1) = 2 := by kernel_rfl
theorem w3 : wrap64 (2 + 1) = 3 := by kernel_rfl
theorem w4 : wrap64 (3 + 1) = 4 := by kernel_rfl
theorem w5 : wrap64 (4 + 1) = 5 := by kernel_rfl
theorem plen : (P.length : Int) = 5 := rfl
theorem wrap_id {n : Int} (h0 : -9223372036854775808 ≤ n) (h1 : n < 9223372036854775808) : wrap64 n = n := by unfold wrap64; omega
theorem What_f (a : Int) (h0 : -9223372036854775808 ≤ a) (h1 : a < 9223372036854775808) : plan_What.f 7 a = some (What a) := by
  unfold plan_What.f
  rw [parts_eq]
  simp only [Option.bind_some, plen]
  simp only [plan_What.l0, plen, rd0, rd1, rd2, rd3, rd4, e0, e1, e2, e3, e4, w1, w2, w3, w4, w5, Option.bind_some]
  simp only [show ((0 : Int) < 5) = True from by simp, show ((1 : Int) < 5) = True from by simp, show ((2 : Int) < 5) = True from by simp, show ((3 : Int) < 5) = True from by simp, show ((4 : Int) < 5) = True from by simp, show ((5 : Int) < 5) = False from by simp,
    show ((0 : Int) ≤ 0) = True from by simp, show ((0 : Int) ≤ 1) = True from by simp, show ((0 : Int) ≤ 2) = True from by simp, show ((0 : Int) ≤ 3) = True from by simp, show ((0 : Int) ≤ 4) = True from by simp,
    show ((8 : Int) = 0) = False from by simp, show ((1 : Int) = 0) = False from by simp, show ((248 : Int) = 0) = False from by simp, show ((16 : Int) = 0) = False from by simp, if_true, if_false]
  unfold What
  by_cases c0 : a < 0
  · rw [if_pos c0]
    repeat rw [if_neg (by omega)]
  · rw [if_neg c0]
    rw [if_pos (show a ≥ 0 by omega)]
    by_cases c1 : a < 8
    · rw [if_pos c1, if_pos c1]
      rw [wrap_id (n := a - 0) (by omega) (by omega), Int.tdiv_eq_ediv_of_nonneg (by omega), wrap_id (by omega) (by omega)]
      congr 2; omega
    · rw [if_neg c1, if_neg c1, if_pos (show a ≥ 8 by omega)]
      by_cases c2 : a < 200
      · rw [if_pos c2, if_pos c2]
        rw [wrap_id (n := a - 8) (by omega) (by omega), Int.tdiv_eq_ediv_of_nonneg (by omega), wrap_id (by omega) (by omega)]
      · rw [if_neg c2, if_neg c2, if_pos (show a ≥ 200 by omega)]
        by_cases c3 : a < 296
        · rw [if_pos c3, if_pos c3]
          rw [wrap_id (n := a - 200) (by omega) (by omega), Int.tdiv_eq_ediv_of_nonneg (by omega), wrap_id (by omega) (by omega)]
          congr 2; omega
        · rw [if_neg c3, if_neg c3, if_pos (show a ≥ 296 by omega)]
          by_cases c4 : a < 1288
          · rw [if_pos c4, if_pos c4]
            rw [wrap_id (n := a - 296) (by omega) (by omega), Int.tdiv_eq_ediv_of_nonneg (by omega), wrap_id (by omega) (by omega)]
          · rw [if_neg c4, if_neg c4, if_pos (show a ≥ 1288 by omega)]
            by_cases c5 : a < 2824
            · rw [if_pos c5, if_pos c5]
              rw [wrap_id (n := a - 1288) (by omega) (by omega), Int.tdiv_eq_ediv_of_nonneg (by omega), wrap_id (by omega) (by omega)]
            · rw [if_neg c5, if_neg c5]
theorem What1 {a : Int} (h0 : 0 ≤ a) (h1 : a < 8) : What a = (1, 0) := by unfold What; rw [if_neg (by omega), if_pos h1]
theorem What2 {a : Int} (h0 : 8 ≤ a) (h1 : a < 200) : What a = (2, (a - 8) / 8) := by unfold What; rw [if_neg (by omega), if_neg (by omega), if_pos h1]
theorem What3 {a : Int} (h0 : 200 ≤ a) (h1 : a < 296) : What a = (3, a - 200) := by unfold What; rw [if_neg (by omega), if_neg (by omega), if_neg (by omega), if_pos h1]
theorem What4 {a : Int} (h0 : 296 ≤ a) (h1 : a < 1288) : What a = (4, (a - 296) / 248) := by unfold What; rw [if_neg (by omega), if_neg (by omega), if_neg (by omega), if_neg (by omega), if_pos h1]
theorem What5 {a : Int} (h0 : 1288 ≤ a) (h1 : a < 2824) : What a = (5, (a - 1288) / 16) := by unfold What; rw [if_neg (by omega), if_neg (by omega), if_neg (by omega), if_neg (by omega), if_neg (by omega), if_pos h1]
def Nxt (p q : Int × Int) : Option Bool := if p.1 ≥ 1 then (if q.1 ≤ 5 then (if q.1 = p.1 then (if q.2 = p.2 then (some true) else (if q.2 = (wrap64 (p.2 + 1)) then (some true) else (if q.1 = (wrap64 (p.1 + 1)) then (some (q.2 == 0)) else (some false)))) else (if q.1 = (wrap64 (p.1 + 1)) then (some (q.2 == 0)) else (some false))) else (some false)) else (some false)
theorem next_same {k i j : Int} (hk : 1 ≤ k) (hk5 : k ≤ 5) (hi0 : 0 ≤ i) (hi : i < 10000) (h : j = i ∨ j = i + 1) : Nxt (k, i) (k, j) = some true := by
  unfold Nxt
  dsimp only
  rw [if_pos (by omega), if_pos (by omega), if_pos rfl]
  rcases h with h | h
  · rw [if_pos h]
  · rw [if_neg (by omega), wrap_id (by omega) (by omega), if_pos h]
theorem next_kind {k i : Int} (hk : 1 ≤ k) (hk5 : k ≤ 4) : Nxt (k, i) (k + 1, 0) = some true := by
  unfold Nxt
  dsimp only
  rw [if_pos (by omega), if_pos (by omega), if_neg (by omega), wrap_id (by omega) (by omega), if_pos rfl]
  rfl
end Whole
open Whole

theorem PlanWhole : escritoirelaw05_PlanWhole.Pure := by
  intro a ha
  refine ⟨7, ?_⟩
  unfold escritoirelaw05_PlanWhole.f
  rw [lives_eq]
  simp only [Option.bind_some, if_true]
  obtain ⟨m, hm, hm0, hm1⟩ : ∃ m, wrap64 (Int.tmod (IntKind.u64.wrap a) 2823) = m ∧ 0 ≤ m ∧ m < 2823 := by
    refine ⟨_, rfl, ?_⟩
    have : 0 ≤ IntKind.u64.wrap a := by simp [IntKind.wrap, IntKind.signed, IntKind.bits]; omega
    rw [Int.tmod_eq_emod_of_nonneg this, wrap_id (by omega) (by omega)]
    omega
  rw [hm, wrap_id (n := m + 1) (by omega) (by omega), What_f _ (by omega) (by omega), What_f _ (by omega) (by omega)]
  simp only [Option.bind_some]
  show Nxt (What m) (What (m + 1)) = some true
  by_cases c1 : m < 7
  · rw [What1 hm0 (by omega), What1 (by omega) (by omega)]; exact next_same (by omega) (by omega) (by omega) (by omega) (by omega)
  by_cases c1 : m < 8
  · rw [What1 hm0 (by omega), What2 (by omega) (by omega), show (m + 1 - 8) / 8 = 0 by omega]; exact next_kind (by omega) (by omega)
  by_cases c2 : m < 199
  · rw [What2 (by omega) (by omega), What2 (by omega) (by omega)]; exact next_same (by omega) (by omega) (by omega) (by omega) (by omega)
  by_cases c2 : m < 200
  · rw [What2 (by omega) (by omega), What3 (by omega) (by omega), show m + 1 - 200 = 0 by omega]; exact next_kind (by omega) (by omega)
  by_cases c3 : m < 295
  · rw [What3 (by omega) (by omega), What3 (by omega) (by omega)]; exact next_same (by omega) (by omega) (by omega) (by omega) (by omega)
  by_cases c3 : m < 296
  · rw [What3 (by omega) (by omega), What4 (by omega) (by omega), show (m + 1 - 296) / 248 = 0 by omega]; exact next_kind (by omega) (by omega)
  by_cases c4 : m < 1287
  · rw [What4 (by omega) (by omega), What4 (by omega) (by omega)]; exact next_same (by omega) (by omega) (by omega) (by omega) (by omega)
  by_cases c4 : m < 1288
  · rw [What4 (by omega) (by omega), What5 (by omega) (by omega), show (m + 1 - 1288) / 16 = 0 by omega]; exact next_kind (by omega) (by omega)
  · rw [What5 (by omega) (by omega), What5 (by omega) (by omega)]; exact next_same (by omega) (by omega) (by omega) (by omega) (by omega)

end Go.Proofs.Ytbiabamijodmiaa.Pure
