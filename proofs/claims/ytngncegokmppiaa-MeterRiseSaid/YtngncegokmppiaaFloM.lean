/- The document's sums and means; the same numbers. -/
import Derived.Test.YtngncegokmppiaaRegB
namespace Go.Proofs.Ytngncegokmppiaa.Flo
open Go Go.RowKit Go.Proofs.Ytngncegokmppiaa.Reg Go.Proofs.YtngncegokmppiaaW.PrintWords Go.Proofs.YtngncegokmppiaaW.PrintLast Go.Proofs.YtngncegokmppiaaW.PrintMore
set_option linter.unusedVariables false
set_option linter.unusedSimpArgs false
theorem None_calls (w : World) (x : Nat) : Calls Try.prog 35 #[.float .f64 x] w fun e w' => e = .returned (.bool (isN x)) ∧ w = w' := by
  have h := ord_self x
  go_enter Try.func35, Try.ntmps35
  go_wp2
  go_ret
  refine ⟨?_, rfl⟩
  show Ending.returned (.bool (FloatKind.f64.format.order x x != some Ordering.eq)) = _
  have e : (FloatKind.f64.format.order x x != some Ordering.eq) = isN x := by
    show (!(ord x x == some .eq)) = isN x
    rw [h, Bool.not_not]
  rw [e]
theorem None_as (w : World) (x : Nat) (b : Bool) (h : isN x = b) : Calls Try.prog 35 #[.float .f64 x] w fun e w' => e = .returned (.bool b) ∧ w = w' := by
  rw [← h]
  exact None_calls w x
theorem same_cv (x y : Nat) : decide (cv x = cv y) = (((x : Int) == y) || (isN x && isN y)) := by
  rw [Bool.eq_iff_iff, decide_eq_true_iff, Bool.or_eq_true, Bool.and_eq_true, beq_iff_eq]
  constructor
  · intro h
    cases hx : isN x <;> cases hy : isN y
    · rw [cv_some hx, cv_some hy] at h
      left
      rw [Option.some.inj h]
    · rw [cv_some hx, cv_none hy] at h; cases h
    · rw [cv_none hx, cv_some hy] at h; cases h
    · exact .inr ⟨rfl, rfl⟩
  · rintro (h | ⟨hx, hy⟩)
    · rw [show x = y by omega]
    · rw [cv_none hx, cv_none hy]
set_option maxHeartbeats 1000000 in
theorem Same_calls (w : World) (x y : Nat) : Calls Try.prog 18 #[.float .f64 x, .float .f64 y] w fun e w' => e = .returned (.bool (decide (cv x = cv y))) ∧ w = w' := by
  rw [same_cv]
  have hb := bits_run
  obtain ⟨b, eb⟩ : ∃ b, ((x : Int) == y) = b := ⟨_, rfl⟩
  obtain ⟨p, hp⟩ : ∃ p, isN x = p := ⟨_, rfl⟩
  obtain ⟨q, hq⟩ : ∃ q, isN y = q := ⟨_, rfl⟩
  have HP := Aside0.mk hp
  have HQ := Aside0.mk hq
  rw [hp, hq, eb]
  clear hp hq
  cases b <;> cases p <;> (
    go_enter Try.func18, Try.ntmps18
    go_wp2_with (first
      | (go_at_call 35; refine (None_as _ x _ HP.out).mono ?_; rintro e w1 ⟨rfl, rfl⟩)
      | (go_at_call 35; refine (None_as _ y _ HQ.out).mono ?_; rintro e w1 ⟨rfl, rfl⟩))
    go_ret
    refine ⟨?_, rfl⟩
    (try simp))
theorem Same_as (w : World) (x y : Nat) (b : Bool) (h : decide (cv x = cv y) = b) : Calls Try.prog 18 #[.float .f64 x, .float .f64 y] w fun e w' => e = .returned (.bool b) ∧ w = w' := by
  rw [← h]
  exact Same_calls w x y
end Go.Proofs.Ytngncegokmppiaa.Flo
