-- Made by wip/tools/wprint.py, a program of this workplace, over the translation. Lean checks it.
import Derived.Test.YtkjmhijgjllnbaaPrint0
import Derived.Test.YtkjmhijgjllnbaaPrint1
import Derived.Test.YtkjmhijgjllnbaaHbitsLen64
namespace Go.Proofs.Ytkjmhijgjllnbaa.Print
open Go.RowKit Go.Proofs.YtkjmhijgjllnbaaW.PrintWords Go.Proofs.YtkjmhijgjllnbaaW.PrintLast Go.Proofs.YtkjmhijgjllnbaaW.PrintMore
attribute [local go_sem] max2_int min2_int max_two min_two max_three min_three max_four min_four   -- for this text's walks alone
set_option linter.unusedVariables false
set_option linter.unusedSimpArgs false

/-! ### words_Put: function 13 -/
def words_Put.f (a0 : Int) (a1 : Int) (a2 : Int) (a3 : Int) : Option (Int × Int) := (words_mask.f a1 a2).bind fun t101 => (if t101 = 0 then (some (0, 1)) else ((bits_Len64.f a3).bind fun t102 => (if t102 > a2 then (some (0, 2)) else (if 0 ≤ a1 then (some (Go.bits .or .u64 (Go.bits .andNot .u64 a0 (shl .u64 t101 a1)) (shl .u64 a3 a1), 0)) else (none)))))
set_option maxHeartbeats 8000000 in
set_option maxRecDepth 100000 in
theorem words_Put.calls (a0 : Int) (a1 : Int) (a2 : Int) (a3 : Int) (r1 : Int) (r2 : Int) (w : World) (h : words_Put.f a0 a1 a2 a3 = some (r1, r2)) :
    Calls Try.prog 13 #[.int .u64 a0, .int .i64 a1, .int .i64 a2, .int .u64 a3] w fun e w' => e = .returned (.tuple #[.int .u64 r1, .int .i64 r2]) ∧ Drawn0 w w' := by
  have H : ((words_mask.f a1 a2).bind fun t101 => (if t101 = 0 then (some (0, 1)) else ((bits_Len64.f a3).bind fun t102 => (if t102 > a2 then (some (0, 2)) else (if 0 ≤ a1 then (some (Go.bits .or .u64 (Go.bits .andNot .u64 a0 (shl .u64 t101 a1)) (shl .u64 a3 a1), 0)) else (none)))))) = some (r1, r2) := h
  clear h
  replace H := Option.bind_eq_some_iff.mp H
  obtain ⟨t101, A50, H⟩ := H
  replace H : (if t101 = 0 then (some (0, 1)) else ((bits_Len64.f a3).bind fun t102 => (if t102 > a2 then (some (0, 2)) else (if 0 ≤ a1 then (some (Go.bits .or .u64 (Go.bits .andNot .u64 a0 (shl .u64 t101 a1)) (shl .u64 a3 a1), 0)) else (none))))) = some (r1, r2) := H
  have A5 := Aside0.mk A50
  clear A50
  by_cases c6 : t101 = 0
  · rw [if_pos c6] at H
    have c6b0 : (t101 == 0) = true := beq_iff_eq.mpr c6
    have c6b1 : (t101 != 0) = false := bne_eq_false_iff_eq.mpr c6
    clear c6
    simp only [Option.some.injEq, Prod.mk.injEq] at H
    obtain ⟨rfl, rfl⟩ := H
    go_enter Try.func13, Try.ntmps13
    go_wp2_with (first | (go_at_call 21; (with_reducible refine (words_mask.calls a1 a2 t101 _ A5.out).mono ?_); rintro e w' ⟨rfl, ⟨nd, rfl⟩⟩; (try first | exact ⟨rfl, _, World.drewN_drewN _ _ _⟩ | exact ⟨rfl, _, Eq.trans (World.drewN_drewN _ _ _) (congrArg (World.drewN _) (Nat.add_assoc _ _ _))⟩)))
    repeat (go_quiet (first | (go_at_call 21; (try simp only [i64_w, i32_w]); (with_reducible refine (words_mask.calls a1 a2 t101 _ A5.out).mono ?_); rintro e w' ⟨rfl, ⟨nd, rfl⟩⟩; (try first | exact ⟨rfl, _, World.drewN_drewN _ _ _⟩ | exact ⟨rfl, _, Eq.trans (World.drewN_drewN _ _ _) (congrArg (World.drewN _) (Nat.add_assoc _ _ _))⟩))); try go_wp2_with (first | (go_at_call 21; (with_reducible refine (words_mask.calls a1 a2 t101 _ A5.out).mono ?_); rintro e w' ⟨rfl, ⟨nd, rfl⟩⟩; (try first | exact ⟨rfl, _, World.drewN_drewN _ _ _⟩ | exact ⟨rfl, _, Eq.trans (World.drewN_drewN _ _ _) (congrArg (World.drewN _) (Nat.add_assoc _ _ _))⟩))))
    go_ret2
    exact ⟨by first | rfl | (simp; done) | (simp [*]; done), by repeat (first | exact Drawn0.refl _ | apply Drawn0.step)⟩
  · rw [if_neg c6] at H
    have c6b0 : (t101 == 0) = false := beq_eq_false_iff_ne.mpr c6
    have c6b1 : (t101 != 0) = true := bne_iff_ne.mpr c6
    replace H := Option.bind_eq_some_iff.mp H
    obtain ⟨t102, A70, H⟩ := H
    replace H : (if t102 > a2 then (some (0, 2)) else (if 0 ≤ a1 then (some (Go.bits .or .u64 (Go.bits .andNot .u64 a0 (shl .u64 t101 a1)) (shl .u64 a3 a1), 0)) else (none))) = some (r1, r2) := H
    have A7 := Aside0.mk A70
    clear A70
    by_cases c8 : t102 > a2
    · rw [if_pos c8] at H
      have c8b0 : decide (a2 < t102) = true := decide_eq_true c8
      clear c8
      simp only [Option.some.injEq, Prod.mk.injEq] at H
      obtain ⟨rfl, rfl⟩ := H
      go_enter Try.func13, Try.ntmps13
      go_wp2_with (first | (go_at_call 21; (with_reducible refine (words_mask.calls a1 a2 t101 _ A5.out).mono ?_); rintro e w' ⟨rfl, ⟨nd, rfl⟩⟩; (try first | exact ⟨rfl, _, World.drewN_drewN _ _ _⟩ | exact ⟨rfl, _, Eq.trans (World.drewN_drewN _ _ _) (congrArg (World.drewN _) (Nat.add_assoc _ _ _))⟩)) | (go_at_call 24; (with_reducible refine (bits_Len64.calls a3 t102 _ A7.out).mono ?_); rintro e w' ⟨rfl, ⟨nd, rfl⟩⟩; (try first | exact ⟨rfl, _, World.drewN_drewN _ _ _⟩ | exact ⟨rfl, _, Eq.trans (World.drewN_drewN _ _ _) (congrArg (World.drewN _) (Nat.add_assoc _ _ _))⟩)))
      repeat (go_quiet (first | (go_at_call 21; (try simp only [i64_w, i32_w]); (with_reducible refine (words_mask.calls a1 a2 t101 _ A5.out).mono ?_); rintro e w' ⟨rfl, ⟨nd, rfl⟩⟩; (try first | exact ⟨rfl, _, World.drewN_drewN _ _ _⟩ | exact ⟨rfl, _, Eq.trans (World.drewN_drewN _ _ _) (congrArg (World.drewN _) (Nat.add_assoc _ _ _))⟩)) | (go_at_call 24; (try simp only [i64_w, i32_w]); (with_reducible refine (bits_Len64.calls a3 t102 _ A7.out).mono ?_); rintro e w' ⟨rfl, ⟨nd, rfl⟩⟩; (try first | exact ⟨rfl, _, World.drewN_drewN _ _ _⟩ | exact ⟨rfl, _, Eq.trans (World.drewN_drewN _ _ _) (congrArg (World.drewN _) (Nat.add_assoc _ _ _))⟩))); try go_wp2_with (first | (go_at_call 21; (with_reducible refine (words_mask.calls a1 a2 t101 _ A5.out).mono ?_); rintro e w' ⟨rfl, ⟨nd, rfl⟩⟩; (try first | exact ⟨rfl, _, World.drewN_drewN _ _ _⟩ | exact ⟨rfl, _, Eq.trans (World.drewN_drewN _ _ _) (congrArg (World.drewN _) (Nat.add_assoc _ _ _))⟩)) | (go_at_call 24; (with_reducible refine (bits_Len64.calls a3 t102 _ A7.out).mono ?_); rintro e w' ⟨rfl, ⟨nd, rfl⟩⟩; (try first | exact ⟨rfl, _, World.drewN_drewN _ _ _⟩ | exact ⟨rfl, _, Eq.trans (World.drewN_drewN _ _ _) (congrArg (World.drewN _) (Nat.add_assoc _ _ _))⟩))))
      go_ret2
      exact ⟨by first | rfl | (simp; done) | (simp [*]; done), by repeat (first | exact Drawn0.refl _ | apply Drawn0.step)⟩
    · rw [if_neg c8] at H
      have c8b0 : decide (a2 < t102) = false := decide_eq_false c8
      clear c8
      by_cases c9 : 0 ≤ a1
      · rw [if_pos c9] at H
        have c9b0 := eq_true c9
        have c9b1 : decide (0 ≤ a1) = true := decide_eq_true c9
        clear c9
        obtain ⟨ji10, hji10⟩ : ∃ j_ : Int, (shl .u64 t101 a1) = j_ := ⟨_, rfl⟩
        replace H : (some (Go.bits .or .u64 (Go.bits .andNot .u64 a0 (ji10)) (shl .u64 a3 a1), 0)) = some (r1, r2) := by first | (rw [hji10] at H; exact H) | (simp only [hji10] at H ⊢; exact H)
        (try rw [hji10] at A5)
        (try rw [hji10] at A7)
        have hji10_ : (IntKind.u64.wrap (t101 * 2 ^ min a1.toNat 64)) = ji10 := hji10
        have hji10z : a1 ≤ 64 → (IntKind.u64.wrap (t101 * 2 ^ a1.toNat)) = ji10 := shl_small hji10
        have c11b0 := eq_true (of_decide_eq_true (by first | (with_reducible assumption) | assumption) : 0 ≤ a1)
        obtain ⟨ji12, hji12⟩ : ∃ j_ : Int, (shl .u64 a3 a1) = j_ := ⟨_, rfl⟩
        replace H : (some (Go.bits .or .u64 (Go.bits .andNot .u64 a0 (ji10)) (ji12), 0)) = some (r1, r2) := by first | (rw [hji12] at H; exact H) | (simp only [hji12] at H ⊢; exact H)
        (try rw [hji12] at A5)
        (try rw [hji12] at A7)
        have hji12_ : (IntKind.u64.wrap (a3 * 2 ^ min a1.toNat 64)) = ji12 := hji12
        have hji12z : a1 ≤ 64 → (IntKind.u64.wrap (a3 * 2 ^ a1.toNat)) = ji12 := shl_small hji12
        simp only [Option.some.injEq, Prod.mk.injEq] at H
        obtain ⟨rfl, rfl⟩ := H
        go_enter Try.func13, Try.ntmps13
        go_wp2_with (first | (go_at_call 21; (with_reducible refine (words_mask.calls a1 a2 t101 _ A5.out).mono ?_); rintro e w' ⟨rfl, ⟨nd, rfl⟩⟩; (try first | exact ⟨rfl, _, World.drewN_drewN _ _ _⟩ | exact ⟨rfl, _, Eq.trans (World.drewN_drewN _ _ _) (congrArg (World.drewN _) (Nat.add_assoc _ _ _))⟩)) | (go_at_call 24; (with_reducible refine (bits_Len64.calls a3 t102 _ A7.out).mono ?_); rintro e w' ⟨rfl, ⟨nd, rfl⟩⟩; (try first | exact ⟨rfl, _, World.drewN_drewN _ _ _⟩ | exact ⟨rfl, _, Eq.trans (World.drewN_drewN _ _ _) (congrArg (World.drewN _) (Nat.add_assoc _ _ _))⟩)))
        repeat (go_quiet (first | (go_at_call 21; (try simp only [i64_w, i32_w]); (with_reducible refine (words_mask.calls a1 a2 t101 _ A5.out).mono ?_); rintro e w' ⟨rfl, ⟨nd, rfl⟩⟩; (try first | exact ⟨rfl, _, World.drewN_drewN _ _ _⟩ | exact ⟨rfl, _, Eq.trans (World.drewN_drewN _ _ _) (congrArg (World.drewN _) (Nat.add_assoc _ _ _))⟩)) | (go_at_call 24; (try simp only [i64_w, i32_w]); (with_reducible refine (bits_Len64.calls a3 t102 _ A7.out).mono ?_); rintro e w' ⟨rfl, ⟨nd, rfl⟩⟩; (try first | exact ⟨rfl, _, World.drewN_drewN _ _ _⟩ | exact ⟨rfl, _, Eq.trans (World.drewN_drewN _ _ _) (congrArg (World.drewN _) (Nat.add_assoc _ _ _))⟩))); try go_wp2_with (first | (go_at_call 21; (with_reducible refine (words_mask.calls a1 a2 t101 _ A5.out).mono ?_); rintro e w' ⟨rfl, ⟨nd, rfl⟩⟩; (try first | exact ⟨rfl, _, World.drewN_drewN _ _ _⟩ | exact ⟨rfl, _, Eq.trans (World.drewN_drewN _ _ _) (congrArg (World.drewN _) (Nat.add_assoc _ _ _))⟩)) | (go_at_call 24; (with_reducible refine (bits_Len64.calls a3 t102 _ A7.out).mono ?_); rintro e w' ⟨rfl, ⟨nd, rfl⟩⟩; (try first | exact ⟨rfl, _, World.drewN_drewN _ _ _⟩ | exact ⟨rfl, _, Eq.trans (World.drewN_drewN _ _ _) (congrArg (World.drewN _) (Nat.add_assoc _ _ _))⟩))))
        go_ret2
        exact ⟨by first | rfl | (simp; done) | (simp only [← hji10, ← hji12] <;> (first | rfl | simp)) | (simp [*]; done), by repeat (first | exact Drawn0.refl _ | apply Drawn0.step)⟩
      · rw [if_neg c9] at H
        exact absurd H (by simp)

end Go.Proofs.Ytkjmhijgjllnbaa.Print
