/- Of each thing there are as many words as it is wide: the counting loop, in plain Lean. -/
import Derived.Test.YtbiabamijodmiaaPrintK
namespace Go.Proofs.Ytbiabamijodmiaa.Pure
open Go.RowKit Go.Proofs.Ytbiabamijodmiaa.Print Go.Proofs.YtbiabamijodmiaaW.PrintWords Go.Proofs.YtbiabamijodmiaaW.PrintLast Go.Proofs.YtbiabamijodmiaaW.PrintMore
namespace Counts
def P : List S45 := [⟨1, 0, 1, 8⟩, ⟨2, 8, 24, 8⟩, ⟨3, 200, 96, 1⟩, ⟨4, 296, 4, 248⟩, ⟨5, 1288, 96, 16⟩]
theorem parts_eq : plan_parts.f 7 = some P := by kernel_rfl
theorem lives_eq : escritoirelaw05_lives.f 7 = some true := by kernel_rfl
def What (a : Int) : Int × Int :=
  if a < 0 then (0, 0) else if a < 8 then (1, 0) else if a < 200 then (2, (a - 8) / 8) else if a < 296 then (3, a - 200) else
  if a < 1288 then (4, (a - 296) / 248) else if a < 2824 then (5, (a - 1288) / 16) else (0, 0)
theorem rd0 : rd_T45 P 0 = ⟨1, 0, 1, 8⟩ := rfl
theorem rd1 : rd_T45 P 1 = ⟨2, 8, 24, 8⟩ := rfl
theorem rd2 : rd_T45 P 2 = ⟨3, 200, 96, 1⟩ := rfl
theorem rd3 : rd_T45 P 3 = ⟨4, 296, 4, 248⟩ := rfl
theorem rd4 : rd_T45 P 4 = ⟨5, 1288, 96, 16⟩ := rfl
theorem e0 : plan_part_end.f 1 0 1 8 = some 8 := by kernel_rfl
theorem e1 : plan_part_end.f 2 8 24 8 = some 200 := by kernel_rfl
theorem e2 : plan_part_end.f 3 200 96 1 = some 296 := by kernel_rfl
theorem e3 : plan_part_end.f 4 296 4 248 = some 1288 := by kernel_rfl
theorem e4 : plan_part_end.f 5 1288 96 16 = some 2824 := by kernel_rfl
theorem w1 : wrap64 (0 + 1) = 1 := by kernel_rfl
theorem w2 : wrap64 (1 + 1) = 2 := by kernel_rfl
theorem w3 : wrap64 (2 + 1) = 3 := by kernel_rfl
theorem w4 : wrap64 (3 + 1) = 4 := by kernel_rfl
theorem w5 : wrap64 (4 + 1) = 5 := by kernel_rfl
theorem plen : (P.length : Int) = 5 := rfl
theorem wrap_id {n : Int} (h0 : -9223372036854775808 ≤ n) (h1 : n < 9223372036854775808) : wrap64 n = n := by unfold wrap64; omega
theorem What_f (a : Int) (h0 : -9223372036854775808 ≤ a) (h1 : a < 9223372036854775808) : plan_What.f 7 a = some (What a) := by
  unfold plan_What.f
  rw [parts_eq]
  simp only [Option.bind_some, plen]
  simp only [plan_What.l0, plen, rd0, rd1, rd2, rd3, rd4, e0, e1, e2, e3, e4, w1, w2, w3, w4, w5, Option.bind_some]
  simp only [show ((0 : Int) < 5) = True from by simp, show ((1 : Int) < 5) = True from by simp, show ((2 : Int) < 5) = True from by simp, show ((3 : Int) < 5) = True from by simp, show ((4 : Int) < 5) = True from by simp, show ((5 : Int) < 5) = False from by simp,
    show ((0 : Int) ≤ 0) = True from by simp, show ((0 : Int) ≤ 1) = True from by simp, show ((0 : Int) ≤ 2) = True from by simp, show ((0 : Int) ≤ 3) = True from by simp, show ((0 : Int) ≤ 4) = True from by simp,
    show ((8 : Int) = 0) = False from by simp, show ((1 : Int) = 0) = False from by simp, show ((248 : Int) = 0) = False from by simp, show ((16 : Int) = 0) = False from by simp, if_true, if_false]
  unfold What
  by_cases c0 : a < 0
  · rw [if_pos c0]
    repeat rw [if_neg (by omega)]
  · rw [if_neg c0]
    rw [if_pos (show a ≥ 0 by omega)]
    by_cases c1 : a < 8
    · rw [if_pos c1, if_pos c1]
      rw [wrap_id (n := a - 0) (by omega) (by omega), Int.tdiv_eq_ediv_of_nonneg (by omega), wrap_id (by omega) (by omega)]
      congr 2; omega
    · rw [if_neg c1, if_neg c1, if_pos (show a ≥ 8 by omega)]
      by_cases c2 : a < 200
      · rw [if_pos c2, if_pos c2]
        rw [wrap_id (n := a - 8) (by omega) (by omega), Int.tdiv_eq_ediv_of_nonneg (by omega), wrap_id (by omega) (by omega)]
      · rw [if_neg c2, if_neg c2, if_pos (show a ≥ 200 by omega)]
        by_cases c3 : a < 296
        · rw [if_pos c3, if_pos c3]
          rw [wrap_id (n := a - 200) (by omega) (by omega), Int.tdiv_eq_ediv_of_nonneg (by omega), wrap_id (by omega) (by omega)]
          congr 2; omega
        · rw [if_neg c3, if_neg c3, if_pos (show a ≥ 296 by omega)]
          by_cases c4 : a < 1288
          · rw [if_pos c4, if_pos c4]
            rw [wrap_id (n := a - 296) (by omega) (by omega), Int.tdiv_eq_ediv_of_nonneg (by omega), wrap_id (by omega) (by omega)]
          · rw [if_neg c4, if_neg c4, if_pos (show a ≥ 1288 by omega)]
            by_cases c5 : a < 2824
            · rw [if_pos c5, if_pos c5]
              rw [wrap_id (n := a - 1288) (by omega) (by omega), Int.tdiv_eq_ediv_of_nonneg (by omega), wrap_id (by omega) (by omega)]
            · rw [if_neg c5, if_neg c5]
theorem What1 {a : Int} (h0 : 0 ≤ a) (h1 : a < 8) : What a = (1, 0) := by unfold What; rw [if_neg (by omega), if_pos h1]
theorem What2 {a : Int} (h0 : 8 ≤ a) (h1 : a < 200) : What a = (2, (a - 8) / 8) := by unfold What; rw [if_neg (by omega), if_neg (by omega), if_pos h1]
theorem What3 {a : Int} (h0 : 200 ≤ a) (h1 : a < 296) : What a = (3, a - 200) := by unfold What; rw [if_neg (by omega), if_neg (by omega), if_neg (by omega), if_pos h1]
theorem What4 {a : Int} (h0 : 296 ≤ a) (h1 : a < 1288) : What a = (4, (a - 296) / 248) := by unfold What; rw [if_neg (by omega), if_neg (by omega), if_neg (by omega), if_neg (by omega), if_pos h1]
theorem What5 {a : Int} (h0 : 1288 ≤ a) (h1 : a < 2824) : What a = (5, (a - 1288) / 16) := by unfold What; rw [if_neg (by omega), if_neg (by omega), if_neg (by omega), if_neg (by omega), if_neg (by omega), if_pos h1]

theorem What_ev (a : Int) (h0 : -9223372036854775808 ≤ a) (h1 : a < 9223372036854775808) : Ev (fun k => plan_What.f k a) (What a) := Ev.of (fun k => plan_What.mono a k) (What_f a h0 h1)
theorem lives_ev : Ev (fun k => escritoirelaw05_lives.f k) true := Ev.of (fun k => escritoirelaw05_lives.mono k) lives_eq
def opn (k : Int) : Bool := k == 2 || k == 3 || k == 5
theorem Open_ev (a : Int) (h0 : -9223372036854775808 ≤ a) (h1 : a < 9223372036854775808) {kind n : Int} (hW : What a = (kind, n)) : Ev (fun k => plan_Open.f k a) (opn kind) := by
  have h := What_ev a h0 h1
  rw [hW] at h
  refine Ev.congr (fun k => by unfold plan_Open.f; rfl) (Ev.bind h (Ev.congr (f := fun _ => some (opn kind)) (fun k => ?_) (Ev.now _)))
  dsimp only
  unfold opn
  by_cases e2 : kind = 2
  · subst e2; rfl
  by_cases e3 : kind = 3
  · subst e3; rfl
  · rw [if_neg e2, if_neg e3, beq_eq_false_iff_ne.mpr e2, beq_eq_false_iff_ne.mpr e3, Bool.false_or, Bool.false_or]
abbrev L := escritoirelaw05_PlanCounts.l0
theorem round0 {K w a n c0 c1 c2 c3 c4 c5 : Int} {r : Bool} (ha : -10 ≤ a) (ha2 : a < 2830) (hc : -1 ≤ c0 ∧ c0 ≤ 3000) (hw : -1 ≤ w ∧ w ≤ 3000) (hW : What a = (0, n))
    (h : Ev (fun k => L k K w (a + 1) (c0 + 1) c1 c2 c3 c4 c5) r) : Ev (fun k => L k K w a c0 c1 c2 c3 c4 c5) r := by
  have hA := What_ev a (by omega) (by omega)
  have hO := Open_ev a (by omega) (by omega) hW
  rw [hW] at hA
  have e1 : wrap64 (a + 1) = a + 1 := wrap_id (by omega) (by omega)
  have e2 : wrap64 (c0 + 1) = c0 + 1 := wrap_id (by omega) (by omega)
  have e3 : wrap64 (w + 1) = w + 1 := wrap_id (by omega) (by omega)
  refine Ev.step (fun k => by unfold L; simp only [escritoirelaw05_PlanCounts.l0]; rw [if_pos ha2]) (Ev.bind hA ?_)
  refine Ev.congr (f := fun k => escritoirelaw05_PlanCounts.j1 k K w a 0 n false c0 c1 c2 c3 c4 c5) (fun k => by simp) ?_
  refine Ev.step (f := fun k => escritoirelaw05_PlanCounts.j2 k K w a 0 false (wrap64 (c0 + 1)) c1 c2 c3 c4 c5) (fun k => by simp only [escritoirelaw05_PlanCounts.j1]; simp) ?_
  refine Ev.step (f := fun k => (plan_Open.f k a).bind fun t => if t = true then some false else L k K w (a + 1) (c0 + 1) c1 c2 c3 c4 c5) (fun k => by simp only [escritoirelaw05_PlanCounts.j2, e1, e2]; simp) ?_
  refine Ev.bind hO (Ev.congr (f := fun k => L k K w (a + 1) (c0 + 1) c1 c2 c3 c4 c5) (fun k => ?_) h)
  rw [if_neg (by decide)]
theorem round1 {K w a n c0 c1 c2 c3 c4 c5 : Int} {r : Bool} (ha : -10 ≤ a) (ha2 : a < 2830) (hc : -1 ≤ c1 ∧ c1 ≤ 3000) (hw : -1 ≤ w ∧ w ≤ 3000) (hW : What a = (1, n))
    (h : Ev (fun k => L k K w (a + 1) c0 (c1 + 1) c2 c3 c4 c5) r) : Ev (fun k => L k K w a c0 c1 c2 c3 c4 c5) r := by
  have hA := What_ev a (by omega) (by omega)
  have hO := Open_ev a (by omega) (by omega) hW
  rw [hW] at hA
  have e1 : wrap64 (a + 1) = a + 1 := wrap_id (by omega) (by omega)
  have e2 : wrap64 (c1 + 1) = c1 + 1 := wrap_id (by omega) (by omega)
  have e3 : wrap64 (w + 1) = w + 1 := wrap_id (by omega) (by omega)
  refine Ev.step (fun k => by unfold L; simp only [escritoirelaw05_PlanCounts.l0]; rw [if_pos ha2]) (Ev.bind hA ?_)
  refine Ev.congr (f := fun k => escritoirelaw05_PlanCounts.j1 k K w a 1 n false c0 c1 c2 c3 c4 c5) (fun k => by simp) ?_
  refine Ev.step (f := fun k => escritoirelaw05_PlanCounts.j3 k K w a 1 false c0 (wrap64 (c1 + 1)) c2 c3 c4 c5) (fun k => by simp only [escritoirelaw05_PlanCounts.j1]; simp) ?_
  refine Ev.step (f := fun k => (plan_Open.f k a).bind fun t => if t = true then some false else L k K w (a + 1) c0 (c1 + 1) c2 c3 c4 c5) (fun k => by simp only [escritoirelaw05_PlanCounts.j3, e1, e2]; simp) ?_
  refine Ev.bind hO (Ev.congr (f := fun k => L k K w (a + 1) c0 (c1 + 1) c2 c3 c4 c5) (fun k => ?_) h)
  rw [if_neg (by decide)]
theorem round2 {K w a n c0 c1 c2 c3 c4 c5 : Int} {r : Bool} (ha : -10 ≤ a) (ha2 : a < 2830) (hc : -1 ≤ c2 ∧ c2 ≤ 3000) (hw : -1 ≤ w ∧ w ≤ 3000) (hW : What a = (2, n))
    (h : Ev (fun k => L k K w (a + 1) c0 c1 (c2 + 1) c3 c4 c5) r) : Ev (fun k => L k K w a c0 c1 c2 c3 c4 c5) r := by
  have hA := What_ev a (by omega) (by omega)
  have hO := Open_ev a (by omega) (by omega) hW
  rw [hW] at hA
  have e1 : wrap64 (a + 1) = a + 1 := wrap_id (by omega) (by omega)
  have e2 : wrap64 (c2 + 1) = c2 + 1 := wrap_id (by omega) (by omega)
  have e3 : wrap64 (w + 1) = w + 1 := wrap_id (by omega) (by omega)
  refine Ev.step (fun k => by unfold L; simp only [escritoirelaw05_PlanCounts.l0]; rw [if_pos ha2]) (Ev.bind hA ?_)
  refine Ev.congr (f := fun k => escritoirelaw05_PlanCounts.j1 k K w a 2 n false c0 c1 c2 c3 c4 c5) (fun k => by simp) ?_
  refine Ev.step (f := fun k => escritoirelaw05_PlanCounts.j4 k K w a 2 false c0 c1 (wrap64 (c2 + 1)) c3 c4 c5) (fun k => by simp only [escritoirelaw05_PlanCounts.j1]; simp) ?_
  refine Ev.step (f := fun k => (plan_Open.f k a).bind fun t => if t = false then some false else L k K w (a + 1) c0 c1 (c2 + 1) c3 c4 c5) (fun k => by simp only [escritoirelaw05_PlanCounts.j4, e1, e2]; simp) ?_
  refine Ev.bind hO (Ev.congr (f := fun k => L k K w (a + 1) c0 c1 (c2 + 1) c3 c4 c5) (fun k => ?_) h)
  rw [if_neg (by decide)]
theorem round3 {K w a n c0 c1 c2 c3 c4 c5 : Int} {r : Bool} (ha : -10 ≤ a) (ha2 : a < 2830) (hc : -1 ≤ c3 ∧ c3 ≤ 3000) (hw : -1 ≤ w ∧ w ≤ 3000) (hW : What a = (3, n))
    (h : Ev (fun k => L k K w (a + 1) c0 c1 c2 (c3 + 1) c4 c5) r) : Ev (fun k => L k K w a c0 c1 c2 c3 c4 c5) r := by
  have hA := What_ev a (by omega) (by omega)
  have hO := Open_ev a (by omega) (by omega) hW
  rw [hW] at hA
  have e1 : wrap64 (a + 1) = a + 1 := wrap_id (by omega) (by omega)
  have e2 : wrap64 (c3 + 1) = c3 + 1 := wrap_id (by omega) (by omega)
  have e3 : wrap64 (w + 1) = w + 1 := wrap_id (by omega) (by omega)
  refine Ev.step (fun k => by unfold L; simp only [escritoirelaw05_PlanCounts.l0]; rw [if_pos ha2]) (Ev.bind hA ?_)
  refine Ev.congr (f := fun k => escritoirelaw05_PlanCounts.j1 k K w a 3 n false c0 c1 c2 c3 c4 c5) (fun k => by simp) ?_
  refine Ev.step (f := fun k => escritoirelaw05_PlanCounts.j5 k K w a 3 false c0 c1 c2 (wrap64 (c3 + 1)) c4 c5) (fun k => by simp only [escritoirelaw05_PlanCounts.j1]; simp) ?_
  refine Ev.step (f := fun k => (plan_Open.f k a).bind fun t => if t = false then some false else L k K w (a + 1) c0 c1 c2 (c3 + 1) c4 c5) (fun k => by simp only [escritoirelaw05_PlanCounts.j5, e1, e2]; simp) ?_
  refine Ev.bind hO (Ev.congr (f := fun k => L k K w (a + 1) c0 c1 c2 (c3 + 1) c4 c5) (fun k => ?_) h)
  rw [if_neg (by decide)]
theorem round4 {K w a n c0 c1 c2 c3 c4 c5 : Int} {r : Bool} (ha : -10 ≤ a) (ha2 : a < 2830) (hc : -1 ≤ c4 ∧ c4 ≤ 3000) (hw : -1 ≤ w ∧ w ≤ 3000) (hW : What a = (4, n))
    (h : Ev (fun k => L k K w (a + 1) c0 c1 c2 c3 (c4 + 1) c5) r) : Ev (fun k => L k K w a c0 c1 c2 c3 c4 c5) r := by
  have hA := What_ev a (by omega) (by omega)
  have hO := Open_ev a (by omega) (by omega) hW
  rw [hW] at hA
  have e1 : wrap64 (a + 1) = a + 1 := wrap_id (by omega) (by omega)
  have e2 : wrap64 (c4 + 1) = c4 + 1 := wrap_id (by omega) (by omega)
  have e3 : wrap64 (w + 1) = w + 1 := wrap_id (by omega) (by omega)
  refine Ev.step (fun k => by unfold L; simp only [escritoirelaw05_PlanCounts.l0]; rw [if_pos ha2]) (Ev.bind hA ?_)
  refine Ev.congr (f := fun k => escritoirelaw05_PlanCounts.j1 k K w a 4 n false c0 c1 c2 c3 c4 c5) (fun k => by simp) ?_
  refine Ev.step (f := fun k => escritoirelaw05_PlanCounts.j6 k K w a 4 false c0 c1 c2 c3 (wrap64 (c4 + 1)) c5) (fun k => by simp only [escritoirelaw05_PlanCounts.j1]; simp) ?_
  refine Ev.step (f := fun k => (plan_Open.f k a).bind fun t => if t = true then some false else L k K w (a + 1) c0 c1 c2 c3 (c4 + 1) c5) (fun k => by simp only [escritoirelaw05_PlanCounts.j6, e1, e2]; simp) ?_
  refine Ev.bind hO (Ev.congr (f := fun k => L k K w (a + 1) c0 c1 c2 c3 (c4 + 1) c5) (fun k => ?_) h)
  rw [if_neg (by decide)]
theorem round5 {K w a n c0 c1 c2 c3 c4 c5 : Int} {r : Bool} (ha : -10 ≤ a) (ha2 : a < 2830) (hc : -1 ≤ c5 ∧ c5 ≤ 3000) (hw : -1 ≤ w ∧ w ≤ 3000) (hW : What a = (5, n))
    (h : Ev (fun k => L k K (if n = K then w + 1 else w) (a + 1) c0 c1 c2 c3 c4 (c5 + 1)) r) : Ev (fun k => L k K w a c0 c1 c2 c3 c4 c5) r := by
  have hA := What_ev a (by omega) (by omega)
  have hO := Open_ev a (by omega) (by omega) hW
  rw [hW] at hA
  have e1 : wrap64 (a + 1) = a + 1 := wrap_id (by omega) (by omega)
  have e2 : wrap64 (c5 + 1) = c5 + 1 := wrap_id (by omega) (by omega)
  have e3 : wrap64 (w + 1) = w + 1 := wrap_id (by omega) (by omega)
  refine Ev.step (fun k => by unfold L; simp only [escritoirelaw05_PlanCounts.l0]; rw [if_pos ha2]) (Ev.bind hA ?_)
  refine Ev.congr (f := fun k => escritoirelaw05_PlanCounts.j1 k K w a 5 n false c0 c1 c2 c3 c4 c5) (fun k => by simp) ?_
  refine Ev.step (f := fun k => (plan_Open.f k a).bind fun t => if t = false then some false else L k K (if n = K then w + 1 else w) (a + 1) c0 c1 c2 c3 c4 (c5 + 1)) (fun k => by simp only [escritoirelaw05_PlanCounts.j1, e1, e2, e3]; by_cases e : n = K <;> simp [e, L]) ?_
  refine Ev.bind hO (Ev.congr (f := fun k => L k K (if n = K then w + 1 else w) (a + 1) c0 c1 c2 c3 c4 (c5 + 1)) (fun k => ?_) h)
  rw [if_neg (by decide)]
def cl (x hi : Int) : Int := if x ≤ 0 then 0 else if hi ≤ x then hi else x
theorem What0 {a : Int} (h : a < 0 ∨ 2824 ≤ a) : What a = (0, 0) := by
  unfold What
  rcases h with h | h
  · rw [if_pos h]
  · rw [if_neg (by omega), if_neg (by omega), if_neg (by omega), if_neg (by omega), if_neg (by omega), if_neg (by omega)]
theorem cl_lo {x hi : Int} (h : x ≤ 0) : cl x hi = 0 := by unfold cl; rw [if_pos h]
theorem cl_hi {x hi : Int} (h0 : 0 < hi) (h : hi ≤ x) : cl x hi = hi := by unfold cl; rw [if_neg (by omega), if_pos h]
theorem cl_in {x hi : Int} (h0 : 0 ≤ x) (h : x < hi) : cl x hi = x := by
  unfold cl
  by_cases e : x ≤ 0
  · rw [if_pos e]; omega
  · rw [if_neg e, if_neg (by omega)]
theorem cl_stay {x hi : Int} (h0 : 0 < hi) (h : x < 0 ∨ hi ≤ x) : cl (x + 1) hi = cl x hi := by
  rcases h with h | h
  · rw [cl_lo (by omega), cl_lo (by omega)]
  · rw [cl_hi h0 (by omega), cl_hi h0 h]
theorem cl_up {x hi : Int} (h0 : 0 ≤ x) (h : x < hi) : cl (x + 1) hi = cl x hi + 1 := by
  rw [cl_in h0 h]
  by_cases e : x + 1 = hi
  · rw [cl_hi (by omega) (by omega)]; omega
  · rw [cl_in (by omega) (by omega)]
theorem cl_le {x hi : Int} (h0 : 0 ≤ hi) : 0 ≤ cl x hi ∧ cl x hi ≤ hi := by
  unfold cl
  split
  · omega
  · split <;> omega
def S (K a : Int) (k : Nat) : Option Bool := L k K (cl (a - (1288 + 16 * K)) 16) a (cl (a + 2) 2 + cl (a - 2824) 6) (cl a 8) (cl (a - 8) 192) (cl (a - 200) 96) (cl (a - 296) 992) (cl (a - 1288) 1536)
theorem sub1 (a c : Int) : a + 1 - c = a - c + 1 := by omega
theorem add1 (a : Int) : a + 1 + 2 = a + 2 + 1 := by omega
theorem all (K : Int) (hK0 : 0 ≤ K) (hK : K < 96) : ∀ (d : Nat) (a : Int), -2 ≤ a → a + d = 2830 → Ev (S K a) true := by
  intro d
  induction d with
  | zero =>
    intro a h0 h1
    obtain rfl : a = 2830 := by omega
    refine ⟨1, fun k hk => ?_⟩
    obtain ⟨k, rfl⟩ : ∃ m, k = m + 1 := ⟨k - 1, by omega⟩
    unfold S L
    rw [cl_hi (by omega) (by omega), cl_hi (by omega) (by omega), cl_hi (by omega) (by omega), cl_hi (by omega) (by omega), cl_hi (by omega) (by omega), cl_hi (by omega) (by omega), cl_hi (by omega) (by omega), cl_hi (by omega) (by omega)]
    simp [escritoirelaw05_PlanCounts.l0]
  | succ d ih =>
    intro a h0 h1
    have ih := ih (a + 1) (by omega) (by omega)
    unfold S at ih ⊢
    rw [sub1, sub1, sub1, sub1, sub1, sub1, add1] at ih
    by_cases b0 : a < 0 ∨ 2824 ≤ a
    · have e : cl (a + 2 + 1) 2 + cl (a - 2824 + 1) 6 = cl (a + 2) 2 + cl (a - 2824) 6 + 1 := by
        rcases b0 with b | b
        · rw [cl_up (by omega) (by omega), cl_stay (by omega) (by omega)]; omega
        · rw [cl_stay (by omega) (by omega), cl_up (by omega) (by omega)]; omega
      rw [cl_stay (x := a - (1288 + 16 * K)) (by omega) (by omega), e, cl_stay (x := a) (by omega) (by omega), cl_stay (x := a - 8) (by omega) (by omega), cl_stay (x := a - 200) (by omega) (by omega), cl_stay (x := a - 296) (by omega) (by omega), cl_stay (x := a - 1288) (by omega) (by omega)] at ih
      have l1 := cl_le (x := a + 2) (hi := 2) (by omega)
      have l2 := cl_le (x := a - 2824) (hi := 6) (by omega)
      have l3 := cl_le (x := a - (1288 + 16 * K)) (hi := 16) (by omega)
      exact round0 (by omega) (by omega) (by omega) (by omega) (What0 b0) ih
    by_cases b1 : a < 8
    · rw [cl_stay (x := a - (1288 + 16 * K)) (by omega) (by omega), cl_stay (x := a + 2) (by omega) (by omega), cl_stay (x := a - 2824) (by omega) (by omega), cl_up (x := a) (by omega) (by omega), cl_stay (x := a - 8) (by omega) (by omega), cl_stay (x := a - 200) (by omega) (by omega), cl_stay (x := a - 296) (by omega) (by omega), cl_stay (x := a - 1288) (by omega) (by omega)] at ih
      have l2 := cl_le (x := a) (hi := 8) (by omega)
      have l3 := cl_le (x := a - (1288 + 16 * K)) (hi := 16) (by omega)
      exact round1 (by omega) (by omega) (by omega) (by omega) (What1 (by omega) (by omega)) ih
    by_cases b2 : a < 200
    · rw [cl_stay (x := a - (1288 + 16 * K)) (by omega) (by omega), cl_stay (x := a + 2) (by omega) (by omega), cl_stay (x := a - 2824) (by omega) (by omega), cl_stay (x := a) (by omega) (by omega), cl_up (x := a - 8) (by omega) (by omega), cl_stay (x := a - 200) (by omega) (by omega), cl_stay (x := a - 296) (by omega) (by omega), cl_stay (x := a - 1288) (by omega) (by omega)] at ih
      have l2 := cl_le (x := a - 8) (hi := 192) (by omega)
      have l3 := cl_le (x := a - (1288 + 16 * K)) (hi := 16) (by omega)
      exact round2 (by omega) (by omega) (by omega) (by omega) (What2 (by omega) (by omega)) ih
    by_cases b3 : a < 296
    · rw [cl_stay (x := a - (1288 + 16 * K)) (by omega) (by omega), cl_stay (x := a + 2) (by omega) (by omega), cl_stay (x := a - 2824) (by omega) (by omega), cl_stay (x := a) (by omega) (by omega), cl_stay (x := a - 8) (by omega) (by omega), cl_up (x := a - 200) (by omega) (by omega), cl_stay (x := a - 296) (by omega) (by omega), cl_stay (x := a - 1288) (by omega) (by omega)] at ih
      have l2 := cl_le (x := a - 200) (hi := 96) (by omega)
      have l3 := cl_le (x := a - (1288 + 16 * K)) (hi := 16) (by omega)
      exact round3 (by omega) (by omega) (by omega) (by omega) (What3 (by omega) (by omega)) ih
    by_cases b4 : a < 1288
    · rw [cl_stay (x := a - (1288 + 16 * K)) (by omega) (by omega), cl_stay (x := a + 2) (by omega) (by omega), cl_stay (x := a - 2824) (by omega) (by omega), cl_stay (x := a) (by omega) (by omega), cl_stay (x := a - 8) (by omega) (by omega), cl_stay (x := a - 200) (by omega) (by omega), cl_up (x := a - 296) (by omega) (by omega), cl_stay (x := a - 1288) (by omega) (by omega)] at ih
      have l2 := cl_le (x := a - 296) (hi := 992) (by omega)
      have l3 := cl_le (x := a - (1288 + 16 * K)) (hi := 16) (by omega)
      exact round4 (by omega) (by omega) (by omega) (by omega) (What4 (by omega) (by omega)) ih
    have b5 : a < 2824 := by omega
    have ew : cl (a - (1288 + 16 * K) + 1) 16 = if (a - 1288) / 16 = K then cl (a - (1288 + 16 * K)) 16 + 1 else cl (a - (1288 + 16 * K)) 16 := by
      by_cases e : (a - 1288) / 16 = K
      · rw [if_pos e, cl_up (by omega) (by omega)]
      · rw [if_neg e, cl_stay (by omega) (by omega)]
    rw [ew, cl_stay (x := a + 2) (by omega) (by omega), cl_stay (x := a - 2824) (by omega) (by omega), cl_stay (x := a) (by omega) (by omega), cl_stay (x := a - 8) (by omega) (by omega), cl_stay (x := a - 200) (by omega) (by omega), cl_stay (x := a - 296) (by omega) (by omega), cl_up (x := a - 1288) (by omega) (by omega)] at ih
    have l2 := cl_le (x := a - 1288) (hi := 1536) (by omega)
    have l3 := cl_le (x := a - (1288 + 16 * K)) (hi := 16) (by omega)
    exact round5 (by omega) (by omega) (by omega) (by omega) (What5 (by omega) (by omega)) ih
end Counts
open Counts

theorem PlanCounts : escritoirelaw05_PlanCounts.Pure := by
  intro a _
  have hk : wrap64 (Int.tmod (IntKind.u64.wrap a) 96) = IntKind.u64.wrap a % 96 := by
    have h0 : 0 ≤ IntKind.u64.wrap a := by simp [IntKind.wrap, IntKind.signed, IntKind.bits]; omega
    rw [Int.tmod_eq_emod_of_nonneg h0]
    exact wrap_id (by omega) (by omega)
  have h := all (IntKind.u64.wrap a % 96) (by omega) (by omega) 2832 (-2) (by omega) (by omega)
  refine Ev.rounds (r := true) (Ev.congr (fun k => by unfold escritoirelaw05_PlanCounts.f; rfl) (Ev.bind lives_ev (Ev.congr (f := S (IntKind.u64.wrap a % 96) (-2)) (fun k => ?_) h)))
  unfold S L
  rw [if_pos rfl, hk, cl_lo (by omega), cl_lo (by omega), cl_lo (by omega), cl_lo (by omega), cl_lo (by omega), cl_lo (by omega), cl_lo (by omega), cl_lo (by omega)]
  rfl

end Go.Proofs.Ytbiabamijodmiaa.Pure
