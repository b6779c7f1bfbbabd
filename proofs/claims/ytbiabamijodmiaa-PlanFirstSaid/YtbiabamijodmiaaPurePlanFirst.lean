/- The law PlanFirst: the first word of a card, an owner, a log, a block is the first one that is part of it. No condition. -/
import Derived.Test.YtbiabamijodmiaaPPlanFirstx2
namespace Go.Proofs.Ytbiabamijodmiaa.Pure
open Go.RowKit Go.Proofs.Ytbiabamijodmiaa.PPlanFirst Go.Proofs.YtbiabamijodmiaaW.PrintWords Go.Proofs.YtbiabamijodmiaaW.PrintLast

namespace First
def P : List S45 := [⟨1, 0, 1, 8⟩, ⟨2, 8, 24, 8⟩, ⟨3, 200, 96, 1⟩, ⟨4, 296, 4, 248⟩, ⟨5, 1288, 96, 16⟩]
theorem parts_eq : plan_parts.f 7 = some P := by kernel_rfl
theorem lives_eq : escritoirelaw05_lives.f 8 = some true := by kernel_rfl
def What (a : Int) : Int × Int :=
  if a < 0 then (0, 0) else if a < 8 then (1, 0) else if a < 200 then (2, (a - 8) / 8) else if a < 296 then (3, a - 200) else
  if a < 1288 then (4, (a - 296) / 248) else if a < 2824 then (5, (a - 1288) / 16) else (0, 0)
theorem rd0 : rd_T45 P 0 = ⟨1, 0, 1, 8⟩ := rfl
theorem rd1 : rd_T45 P 1 = ⟨2, 8, 24, 8⟩ := rfl
theorem rd2 : rd_T45 P 2 = ⟨3, 200, 96, 1⟩ := rfl
theorem rd3 : rd_T45 P 3 = ⟨4, 296, 4, 248⟩ := rfl
theorem rd4 : rd_T45 P 4 = ⟨5, 1288, 96, 16⟩ := rfl
theorem e0 : plan_part_end.f 1 0 1 8 = some 8 := by kernel_rfl
theorem e1 : plan_part_end.f 2 8 24 8 = some 200 := by kernel_rfl
theorem e2 : plan_part_end.f 3 200 96 1 = some 296 := by kernel_rfl
theorem e3 : plan_part_end.f 4 296 4 248 = some 1288 := by kernel_rfl
theorem e4 : plan_part_end.f 5 1288 96 16 = some 2824 := by kernel_rfl
theorem w1 : wrap64 (0 + 1) = 1 := by kernel_rfl
theorem w2 : wrap64 (1 + 1) = 2 := by kernel_rfl
theorem w3 : wrap64 (2 + 1) = 3 := by kernel_rfl
theorem w4 : wrap64 (3 + 1) = 4 := by kernel_rfl
theorem w5 : wrap64 (4 + 1) = 5 := by kernel_rfl
theorem plen : (P.length : Int) = 5 := rfl
theorem wrap_id {n : Int} (h0 : -9223372036854775808 ≤ n) (h1 : n < 9223372036854775808) : wrap64 n = n := by unfold wrap64; omega
theorem What_f (a : Int) (h0 : -9223372036854775808 ≤ a) (h1 : a < 9223372036854775808) : plan_What.f 7 a = some (What a) := by
  unfold plan_What.f
  rw [parts_eq]
  simp only [Option.bind_some, plen]
  simp only [plan_What.l0, plen, rd0, rd1, rd2, rd3, rd4, e0, e1, e2, e3, e4, w1, w2, w3, w4, w5, Option.bind_some]
  simp only [show ((0 : Int) < 5) = True from by simp, show ((1 : Int) < 5) = True from by simp, show ((2 : Int) < 5) = True from by simp, show ((3 : Int) < 5) = True from by simp, show ((4 : Int) < 5) = True from by simp, show ((5 : Int) < 5) = False from by simp,
    show ((0 : Int) ≤ 0) = True from by simp, show ((0 : Int) ≤ 1) = True from by simp, show ((0 : Int) ≤ 2) = True from by simp, show ((0 : Int) ≤ 3) = True from by simp, show ((0 : Int) ≤ 4) = True from by simp,
    show ((8 : Int) = 0) = False from by simp, show ((1 : Int) = 0) = False from by simp, show ((248 : Int) = 0) = False from by simp, show ((16 : Int) = 0) = False from by simp, if_true, if_false]
  unfold What
  by_cases c0 : a < 0
  · rw [if_pos c0]
    repeat rw [if_neg (by omega)]
  · rw [if_neg c0]
    rw [if_pos (show a ≥ 0 by omega)]
    by_cases c1 : a < 8
    · rw [if_pos c1, if_pos c1]
      rw [wrap_id (n := a - 0) (by omega) (by omega), Int.tdiv_eq_ediv_of_nonneg (by omega), wrap_id (by omega) (by omega)]
      congr 2; omega
    · rw [if_neg c1, if_neg c1, if_pos (show a ≥ 8 by omega)]
      by_cases c2 : a < 200
      · rw [if_pos c2, if_pos c2]
        rw [wrap_id (n := a - 8) (by omega) (by omega), Int.tdiv_eq_ediv_of_nonneg (by omega), wrap_id (by omega) (by omega)]
      · rw [if_neg c2, if_neg c2, if_pos (show a ≥ 200 by omega)]
        by_cases c3 : a < 296
        · rw [if_pos c3, if_pos c3]
          rw [wrap_id (n := a - 200) (by omega) (by omega), Int.tdiv_eq_ediv_of_nonneg (by omega), wrap_id (by omega) (by omega)]
          congr 2; omega
        · rw [if_neg c3, if_neg c3, if_pos (show a ≥ 296 by omega)]
          by_cases c4 : a < 1288
          · rw [if_pos c4, if_pos c4]
            rw [wrap_id (n := a - 296) (by omega) (by omega), Int.tdiv_eq_ediv_of_nonneg (by omega), wrap_id (by omega) (by omega)]
          · rw [if_neg c4, if_neg c4, if_pos (show a ≥ 1288 by omega)]
            by_cases c5 : a < 2824
            · rw [if_pos c5, if_pos c5]
              rw [wrap_id (n := a - 1288) (by omega) (by omega), Int.tdiv_eq_ediv_of_nonneg (by omega), wrap_id (by omega) (by omega)]
            · rw [if_neg c5, if_neg c5]
theorem What1 {a : Int} (h0 : 0 ≤ a) (h1 : a < 8) : What a = (1, 0) := by unfold What; rw [if_neg (by omega), if_pos h1]
theorem What2 {a : Int} (h0 : 8 ≤ a) (h1 : a < 200) : What a = (2, (a - 8) / 8) := by unfold What; rw [if_neg (by omega), if_neg (by omega), if_pos h1]
theorem What3 {a : Int} (h0 : 200 ≤ a) (h1 : a < 296) : What a = (3, a - 200) := by unfold What; rw [if_neg (by omega), if_neg (by omega), if_neg (by omega), if_pos h1]
theorem What4 {a : Int} (h0 : 296 ≤ a) (h1 : a < 1288) : What a = (4, (a - 296) / 248) := by unfold What; rw [if_neg (by omega), if_neg (by omega), if_neg (by omega), if_neg (by omega), if_pos h1]
theorem What5 {a : Int} (h0 : 1288 ≤ a) (h1 : a < 2824) : What a = (5, (a - 1288) / 16) := by unfold What; rw [if_neg (by omega), if_neg (by omega), if_neg (by omega), if_neg (by omega), if_neg (by omega), if_pos h1]
theorem of2 : plan_of.f 8 2 = some (2, 8, 24, 8) := by kernel_rfl
theorem of3 : plan_of.f 8 3 = some (3, 200, 96, 1) := by kernel_rfl
theorem of4 : plan_of.f 8 4 = some (4, 296, 4, 248) := by kernel_rfl
theorem of5 : plan_of.f 8 5 = some (5, 1288, 96, 16) := by kernel_rfl
theorem none_ok (kind k most : Int) (h : k < 0 ∨ k ≥ most) : escritoirelaw05_first.f 8 0 1 kind k most = some true := by
  unfold escritoirelaw05_first.f
  have : escritoirelaw05_first.j0 8 0 1 kind k true = some true := by
    simp only [escritoirelaw05_first.j0, if_true]; rfl
  by_cases c : k < 0
  · rw [if_pos c, this]
  · rw [if_neg c, decide_eq_true (by omega), this]
theorem some_ok (a kind k most y m : Int) (a0 : 1 ≤ a) (a1 : a < 100000) (h0 : 0 ≤ k) (h1 : k < most) (hk : k < 1000) (h2 : What a = (kind, k)) (h3 : What (a - 1) = (y, m)) (h4 : y = kind → m = k - 1) :
    escritoirelaw05_first.f 8 a 0 kind k most = some true := by
  unfold escritoirelaw05_first.f
  rw [if_neg (by omega), decide_eq_false (by omega)]
  simp only [escritoirelaw05_first.j0]
  rw [wrap_id (n := a - 1) (by omega) (by omega), wrap_id (n := k - 1) (by omega) (by omega), What_f _ (by omega) (by omega), What_f _ (by omega) (by omega), h2, h3]
  simp only [Option.bind_some, if_true]
  by_cases c : y = kind
  · simp [c, h4 c]
  · simp [c]
theorem Card_ok (k : Int) (w0 : -9223372036854775808 ≤ k) (w1 : k < 9223372036854775808) : ∃ p, plan_Card.f 8 k = some p ∧ escritoirelaw05_first.f 8 p.1 p.2 2 k 24 = some true := by
  unfold plan_Card.f plan_first.f
  rw [of2]
  simp only [Option.bind_some]
  by_cases c0 : k < 0
  · rw [if_pos c0]; exact ⟨_, rfl, none_ok _ _ _ (by omega)⟩
  by_cases c1 : k ≥ 24
  · rw [if_neg c0, if_pos c1]; exact ⟨_, rfl, none_ok _ _ _ (by omega)⟩
  rw [if_neg c0, if_neg c1]
  refine ⟨_, rfl, ?_⟩
  dsimp only
  rw [wrap_id (n := k * 8) (by omega) (by omega), wrap_id (by omega) (by omega)]
  by_cases c2 : k = 0
  · subst c2
    exact some_ok _ _ _ _ _ _ (by omega) (by omega) (by omega) (by omega) (by omega) (by rw [What2 (by omega) (by omega)]; congr 1) (What1 (by omega) (by omega)) (by omega)
  · exact some_ok _ _ _ _ _ _ (by omega) (by omega) (by omega) (by omega) (by omega) (by rw [What2 (by omega) (by omega)]; congr 1; omega) (What2 (by omega) (by omega)) (by omega)
theorem Owner_ok (k : Int) (w0 : -9223372036854775808 ≤ k) (w1 : k < 9223372036854775808) : ∃ p, plan_Owner.f 8 k = some p ∧ escritoirelaw05_first.f 8 p.1 p.2 3 k 96 = some true := by
  unfold plan_Owner.f plan_first.f
  rw [of3]
  simp only [Option.bind_some]
  by_cases c0 : k < 0
  · rw [if_pos c0]; exact ⟨_, rfl, none_ok _ _ _ (by omega)⟩
  by_cases c1 : k ≥ 96
  · rw [if_neg c0, if_pos c1]; exact ⟨_, rfl, none_ok _ _ _ (by omega)⟩
  rw [if_neg c0, if_neg c1]
  refine ⟨_, rfl, ?_⟩
  dsimp only
  rw [wrap_id (n := k * 1) (by omega) (by omega), wrap_id (by omega) (by omega)]
  by_cases c2 : k = 0
  · subst c2
    exact some_ok _ _ _ _ _ _ (by omega) (by omega) (by omega) (by omega) (by omega) (by rw [What3 (by omega) (by omega)]; congr 1) (What2 (by omega) (by omega)) (by omega)
  · exact some_ok _ _ _ _ _ _ (by omega) (by omega) (by omega) (by omega) (by omega) (by rw [What3 (by omega) (by omega)]; congr 1; omega) (What3 (by omega) (by omega)) (by omega)
theorem Log_ok (k : Int) (w0 : -9223372036854775808 ≤ k) (w1 : k < 9223372036854775808) : ∃ p, plan_Log.f 8 k = some p ∧ escritoirelaw05_first.f 8 p.1 p.2 4 k 4 = some true := by
  unfold plan_Log.f plan_first.f
  rw [of4]
  simp only [Option.bind_some]
  by_cases c0 : k < 0
  · rw [if_pos c0]; exact ⟨_, rfl, none_ok _ _ _ (by omega)⟩
  by_cases c1 : k ≥ 4
  · rw [if_neg c0, if_pos c1]; exact ⟨_, rfl, none_ok _ _ _ (by omega)⟩
  rw [if_neg c0, if_neg c1]
  refine ⟨_, rfl, ?_⟩
  dsimp only
  rw [wrap_id (n := k * 248) (by omega) (by omega), wrap_id (by omega) (by omega)]
  by_cases c2 : k = 0
  · subst c2
    exact some_ok _ _ _ _ _ _ (by omega) (by omega) (by omega) (by omega) (by omega) (by rw [What4 (by omega) (by omega)]; congr 1) (What3 (by omega) (by omega)) (by omega)
  · exact some_ok _ _ _ _ _ _ (by omega) (by omega) (by omega) (by omega) (by omega) (by rw [What4 (by omega) (by omega)]; congr 1; omega) (What4 (by omega) (by omega)) (by omega)
theorem Block_ok (k : Int) (w0 : -9223372036854775808 ≤ k) (w1 : k < 9223372036854775808) : ∃ p, plan_Block.f 8 k = some p ∧ escritoirelaw05_first.f 8 p.1 p.2 5 k 96 = some true := by
  unfold plan_Block.f plan_first.f
  rw [of5]
  simp only [Option.bind_some]
  by_cases c0 : k < 0
  · rw [if_pos c0]; exact ⟨_, rfl, none_ok _ _ _ (by omega)⟩
  by_cases c1 : k ≥ 96
  · rw [if_neg c0, if_pos c1]; exact ⟨_, rfl, none_ok _ _ _ (by omega)⟩
  rw [if_neg c0, if_neg c1]
  refine ⟨_, rfl, ?_⟩
  dsimp only
  rw [wrap_id (n := k * 16) (by omega) (by omega), wrap_id (by omega) (by omega)]
  by_cases c2 : k = 0
  · subst c2
    exact some_ok _ _ _ _ _ _ (by omega) (by omega) (by omega) (by omega) (by omega) (by rw [What5 (by omega) (by omega)]; congr 1) (What4 (by omega) (by omega)) (by omega)
  · exact some_ok _ _ _ _ _ _ (by omega) (by omega) (by omega) (by omega) (by omega) (by rw [What5 (by omega) (by omega)]; congr 1; omega) (What5 (by omega) (by omega)) (by omega)
end First
open First

theorem PlanFirst : escritoirelaw05_PlanFirst.Pure := by
  intro a ha
  have hb : -9223372036854775808 ≤ a ∧ a < 9223372036854775808 := by
    simp [Lit.wf, IntKind.min, IntKind.max, IntKind.signed, IntKind.bits] at ha; omega
  obtain ⟨p1, e1, f1⟩ := Card_ok a hb.1 hb.2
  obtain ⟨p2, e2, f2⟩ := Owner_ok a hb.1 hb.2
  obtain ⟨p3, e3, f3⟩ := Log_ok a hb.1 hb.2
  obtain ⟨p4, e4, f4⟩ := Block_ok a hb.1 hb.2
  refine ⟨8, ?_⟩
  unfold escritoirelaw05_PlanFirst.f
  rw [lives_eq]
  simp only [Option.bind_some, if_true]
  rw [e1]; simp only [Option.bind_some]
  rw [e2]; simp only [Option.bind_some]
  rw [e3]; simp only [Option.bind_some]
  rw [e4]; simp only [Option.bind_some]
  rw [f1]; simp only [Option.bind_some, if_true]
  rw [f2]; simp only [Option.bind_some, if_true]
  rw [f3]; simp only [Option.bind_some, if_true]
  rw [f4]; simp only [Option.bind_some]

end Go.Proofs.Ytbiabamijodmiaa.Pure
