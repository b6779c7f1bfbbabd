-- Made by wip/tools/wprint.py, a program of this workplace, over the translation. Lean checks it.
import Derived.Test.YtbiabamijodmiaaPrint0
import Derived.Test.YtbiabamijodmiaaPrint5
namespace Go.Proofs.Ytbiabamijodmiaa.Print
open Go.RowKit Go.Proofs.YtbiabamijodmiaaW.PrintWords Go.Proofs.YtbiabamijodmiaaW.PrintLast Go.Proofs.YtbiabamijodmiaaW.PrintMore
attribute [local go_sem] max2_int min2_int max_two min_two max_three min_three max_four min_four   -- for this text's walks alone
set_option linter.unusedVariables false
set_option linter.unusedSimpArgs false

/-! ### escritoireref05_Open: function 20 -/
def escritoireref05_Open.f (k : Nat) (a0 : Int) : Option (Bool) := (escritoireref05_What.f k a0).bind fun bt232 => (if bt232.1 = 2 then (some true) else (if bt232.1 = 3 then (some true) else (some (bt232.1 == 5))))
theorem escritoireref05_Open.mono : ∀ a0 k, LeO (escritoireref05_Open.f k a0) (escritoireref05_Open.f (k + 1) a0) := by
  intro a0 k
  unfold escritoireref05_Open.f
  repeat' first
      | (with_reducible exact escritoireref05_What.mono _ _)
      | (with_reducible exact LeO.refl _)
      | (with_reducible exact LeO.none _)
      | (with_reducible refine LeO.ite ?_ ?_)
      | (with_reducible refine LeO.bind ?_ (fun _ => ?_))
      | exact escritoireref05_What.mono _ _
      | exact LeO.none _
      | refine LeO.ite ?_ ?_
      | refine LeO.bind ?_ (fun _ => ?_)
set_option maxHeartbeats 8000000 in
set_option maxRecDepth 100000 in
theorem escritoireref05_Open.calls (k : Nat) (a0 : Int) (r : Bool) (w : World) (h : escritoireref05_Open.f k a0 = some r) :
    Calls Try.prog 20 #[.int .i64 a0] w fun e w' => e = .returned (.bool r) ∧ Drawn0 w w' := by
  have H : ((escritoireref05_What.f k a0).bind fun bt232 => (if bt232.1 = 2 then (some true) else (if bt232.1 = 3 then (some true) else (some (bt232.1 == 5))))) = some r := h
  clear h
  replace H := Option.bind_eq_some_iff.mp H
  obtain ⟨⟨t232, t233⟩, A20, H⟩ := H
  replace H : (if t232 = 2 then (some true) else (if t232 = 3 then (some true) else (some (t232 == 5)))) = some r := H
  have A2 := Aside0.mk A20
  clear A20
  by_cases c3 : t232 = 2
  · rw [if_pos c3] at H
    have c3b0 : (t232 == 2) = true := beq_iff_eq.mpr c3
    have c3b1 : (t232 != 2) = false := bne_eq_false_iff_eq.mpr c3
    clear c3
    obtain rfl := Option.some.inj H
    go_enter Try.func20, Try.ntmps20
    go_wp2_with (first | ((with_reducible refine gate_callee (f := 19) rfl ?_); refine goesL_ (some 7) rfl rfl Try.func19 (by kernel_rfl) rfl #[.int .i64 a0] rfl (by (try simp only [List.map_toArray, List.map_cons, List.map_nil]); first | done | rfl | (simp only [List.length_drop, List.length_take]; rfl)) ?_; (with_reducible refine (escritoireref05_What.calls k a0 t232 t233 _ A2.out).mono ?_); rintro e w' ⟨rfl, ⟨nd, rfl⟩⟩; refine ⟨_, rfl, ?_⟩))
    go_ret
    exact ⟨by first | rfl | (simp; done) | (simp [*]; done), by repeat (first | exact Drawn0.refl _ | apply Drawn0.step)⟩
  · rw [if_neg c3] at H
    have c3b0 : (t232 == 2) = false := beq_eq_false_iff_ne.mpr c3
    have c3b1 : (t232 != 2) = true := bne_iff_ne.mpr c3
    by_cases c4 : t232 = 3
    · rw [if_pos c4] at H
      have c4b0 : (t232 == 3) = true := beq_iff_eq.mpr c4
      have c4b1 : (t232 != 3) = false := bne_eq_false_iff_eq.mpr c4
      clear c4
      obtain rfl := Option.some.inj H
      go_enter Try.func20, Try.ntmps20
      go_wp2_with (first | ((with_reducible refine gate_callee (f := 19) rfl ?_); refine goesL_ (some 7) rfl rfl Try.func19 (by kernel_rfl) rfl #[.int .i64 a0] rfl (by (try simp only [List.map_toArray, List.map_cons, List.map_nil]); first | done | rfl | (simp only [List.length_drop, List.length_take]; rfl)) ?_; (with_reducible refine (escritoireref05_What.calls k a0 t232 t233 _ A2.out).mono ?_); rintro e w' ⟨rfl, ⟨nd, rfl⟩⟩; refine ⟨_, rfl, ?_⟩))
      go_ret
      exact ⟨by first | rfl | (simp; done) | (simp [*]; done), by repeat (first | exact Drawn0.refl _ | apply Drawn0.step)⟩
    · rw [if_neg c4] at H
      have c4b0 : (t232 == 3) = false := beq_eq_false_iff_ne.mpr c4
      have c4b1 : (t232 != 3) = true := bne_iff_ne.mpr c4
      obtain rfl := Option.some.inj H
      go_enter Try.func20, Try.ntmps20
      go_wp2_with (first | ((with_reducible refine gate_callee (f := 19) rfl ?_); refine goesL_ (some 7) rfl rfl Try.func19 (by kernel_rfl) rfl #[.int .i64 a0] rfl (by (try simp only [List.map_toArray, List.map_cons, List.map_nil]); first | done | rfl | (simp only [List.length_drop, List.length_take]; rfl)) ?_; (with_reducible refine (escritoireref05_What.calls k a0 t232 t233 _ A2.out).mono ?_); rintro e w' ⟨rfl, ⟨nd, rfl⟩⟩; refine ⟨_, rfl, ?_⟩))
      go_ret
      exact ⟨by first | rfl | (simp; done) | (simp [*]; done), by repeat (first | exact Drawn0.refl _ | apply Drawn0.step)⟩

/-! ### escritoireref05_Right: function 21 -/
mutual
def escritoireref05_Right.j0 : Nat → List Int → Bool → Option (Bool)
  | 0, _, _ => none
  | k + 1, x0, x18 => if x18 = true then (some false) else (escritoireref05_Right.l0 k x0 2)
def escritoireref05_Right.l0 : Nat → List Int → Int → Option (Bool)
  | 0, _, _ => none
  | k + 1, x0, x3 => if x3 < 8 then (if 0 ≤ x3 then (if x3 < (x0.length : Int) then (if (rd x0 x3) = 0 then (escritoireref05_Right.l0 k x0 (wrap64 (x3 + 1))) else (some false)) else (none)) else (none)) else (some true)
end
def escritoireref05_Right.f (k : Nat) (l0 : List Int) : Option (Bool) := if (l0.length : Int) = 2824 then (if 0 < (l0.length : Int) then (if (rd l0 0) = 7021221306412823411 then (if 1 < (l0.length : Int) then (escritoireref05_Right.j0 k l0 ((rd l0 1) != 2824)) else (none)) else (escritoireref05_Right.j0 k l0 true)) else (none)) else (escritoireref05_Right.j0 k l0 true)
theorem escritoireref05_Right.mono_l : ∀ k, (∀ y0 y1, LeO (escritoireref05_Right.j0 k y0 y1) (escritoireref05_Right.j0 (k + 1) y0 y1)) ∧ (∀ y0 y1, LeO (escritoireref05_Right.l0 k y0 y1) (escritoireref05_Right.l0 (k + 1) y0 y1))
  | 0 => ⟨fun _ _ r h => by simp [escritoireref05_Right.j0] at h, fun _ _ r h => by simp [escritoireref05_Right.l0] at h⟩
  | k + 1 => by
    obtain ⟨ih0, ih1⟩ := escritoireref05_Right.mono_l k
    refine ⟨?_, ?_⟩
    · intro y0 y1
      unfold escritoireref05_Right.j0
      repeat' first
      | (with_reducible exact ih0 _ _)
      | (with_reducible exact ih1 _ _)
      | (with_reducible exact LeO.refl _)
      | (with_reducible exact LeO.none _)
      | (with_reducible refine LeO.ite ?_ ?_)
      | (with_reducible refine LeO.bind ?_ (fun _ => ?_))
      | exact ih0 _ _
      | exact ih1 _ _
      | exact LeO.none _
      | refine LeO.ite ?_ ?_
      | refine LeO.bind ?_ (fun _ => ?_)
    · intro y0 y1
      unfold escritoireref05_Right.l0
      repeat' first
      | (with_reducible exact ih0 _ _)
      | (with_reducible exact ih1 _ _)
      | (with_reducible exact LeO.refl _)
      | (with_reducible exact LeO.none _)
      | (with_reducible refine LeO.ite ?_ ?_)
      | (with_reducible refine LeO.bind ?_ (fun _ => ?_))
      | exact ih0 _ _
      | exact ih1 _ _
      | exact LeO.none _
      | refine LeO.ite ?_ ?_
      | refine LeO.bind ?_ (fun _ => ?_)
theorem escritoireref05_Right.mono : ∀ a0 k, LeO (escritoireref05_Right.f k a0) (escritoireref05_Right.f (k + 1) a0) := by
  intro a0 k
  obtain ⟨ih0, ih1⟩ := escritoireref05_Right.mono_l k
  unfold escritoireref05_Right.f
  repeat' first
      | (with_reducible exact ih0 _ _)
      | (with_reducible exact ih1 _ _)
      | (with_reducible exact LeO.refl _)
      | (with_reducible exact LeO.none _)
      | (with_reducible refine LeO.ite ?_ ?_)
      | (with_reducible refine LeO.bind ?_ (fun _ => ?_))
      | exact ih0 _ _
      | exact ih1 _ _
      | exact LeO.none _
      | refine LeO.ite ?_ ?_
      | refine LeO.bind ?_ (fun _ => ?_)
set_option maxHeartbeats 8000000 in
set_option maxRecDepth 100000 in
theorem escritoireref05_Right.calls (k : Nat) (A0 : Option Addr) (c0 : Nat) (l0 : List Int) (r : Bool) (w : World) (hr0 : Kd.C (Kd.int .u64) w A0 l0.length l0) (hc0 : l0.length ≤ c0) (h : escritoireref05_Right.f k l0 = some r) :
    Calls Try.prog 21 #[.slice A0 l0.length c0] w fun e w' => e = .returned (.bool r) ∧ Drawn0 w w' := by
  have HR0 := Aside0.mk hr0
  have HC0 := Aside0.mk hc0
  clear hr0 hc0
  have H : (if (l0.length : Int) = 2824 then (if 0 < (l0.length : Int) then (if (rd l0 0) = 7021221306412823411 then (if 1 < (l0.length : Int) then (escritoireref05_Right.j0 k l0 ((rd l0 1) != 2824)) else (none)) else (escritoireref05_Right.j0 k l0 true)) else (none)) else (escritoireref05_Right.j0 k l0 true)) = some r := h
  clear h
  have HC2 := Aside0.mk H
  clear H
  go_enter Try.func21, Try.ntmps21
  go_upto_region 1 with (fail)
  go_cut [18] (fun v18 wc => ∃ (kq : Nat) (x18_1 : Bool), v18 = .bool x18_1 ∧ Aside0 (escritoireref05_Right.j0 kq l0 x18_1 = some r) ∧ Aside0 (kq ≤ k) ∧ Drawn0 w wc)
  case first =>
    have H := HC2.out
    clear HC2
    by_cases c3 : (l0.length : Int) = 2824
    · rw [if_pos c3] at H
      have c3b0 : ((l0.length : Int) == 2824) = true := beq_iff_eq.mpr c3
      have c3b1 : ((l0.length : Int) != 2824) = false := bne_eq_false_iff_eq.mpr c3
      clear c3
      (first | rw [c3b0] | (simp only [i64_w, i32_w]; rw [c3b0]) | skip)
      by_cases c4 : 0 < (l0.length : Int)
      · rw [if_pos c4] at H
        have c4b0 : decide (0 < (l0.length : Int)) = true := decide_eq_true c4
        have c4b1 : decide (0 < l0.length) = true := decide_eq_true (by omega)
        clear c4
        by_cases c5 : (rd l0 0) = 7021221306412823411
        · rw [if_pos c5] at H
          have c5b0 : ((rd l0 0) == 7021221306412823411) = true := beq_iff_eq.mpr c5
          have c5b1 : ((rd l0 0) != 7021221306412823411) = false := bne_eq_false_iff_eq.mpr c5
          clear c5
          by_cases c6 : 1 < (l0.length : Int)
          · rw [if_pos c6] at H
            have c6b0 : decide (1 < (l0.length : Int)) = true := decide_eq_true c6
            have c6b1 : decide (1 < l0.length) = true := decide_eq_true (by omega)
            clear c6
            have H' := Aside0.mk H
            clear H
            have p234 : 0 ≤ (0 : Int) := (by omega)
            have q234 : 0 < (l0.length : Int) := of_decide_eq_true (by first | (with_reducible assumption) | assumption)
            obtain ⟨ad234, e234, hx234_0⟩ := Kd.at_int HR0.out 0 p234 q234
            cases e234
            have qi234 : (0 < l0.length) = True := eq_true (by omega)
            (try rw [show ((0 : Int)).toNat = 0 from rfl] at hx234_0)
            (try rw [Addr.add_zero'] at hx234_0)
            replace p234 := eq_true p234
            replace q234 := eq_true q234
            have p235 : 0 ≤ (1 : Int) := (by omega)
            have q235 : 1 < (l0.length : Int) := of_decide_eq_true (by first | (with_reducible assumption) | assumption)
            obtain ⟨ad235, e235, hx235_0⟩ := Kd.at_int HR0.out 1 p235 q235
            obtain rfl : ad234 = ad235 := (by injection e235)
            (try simp only [show (1 : Int).toNat = 1 from rfl, Nat.reduceMul, Nat.reduceEqDiff, Go.Addr.add, ↓reduceIte] at hx235_0)
            have qi235 : (1 < l0.length) = True := eq_true (by omega)
            (try rw [show ((1 : Int)).toNat = 1 from rfl] at hx235_0)
            replace p235 := eq_true p235
            replace q235 := eq_true q235
            go_wp2
            go_meet
            case rel => exact ⟨_, (((rd l0 1) != 2824)), (by first | rfl | (simp; done) | (simp [*]; done) | kernel_rfl), H', ⟨by first | omega | exact Nat.le_refl _⟩, by repeat (first | exact Drawn0.refl _ | apply Drawn0.step)⟩
          · rw [if_neg c6] at H
            exact absurd H (by simp)
        · rw [if_neg c5] at H
          have c5b0 : ((rd l0 0) == 7021221306412823411) = false := beq_eq_false_iff_ne.mpr c5
          have c5b1 : ((rd l0 0) != 7021221306412823411) = true := bne_iff_ne.mpr c5
          have H' := Aside0.mk H
          clear H
          have p234 : 0 ≤ (0 : Int) := (by omega)
          have q234 : 0 < (l0.length : Int) := of_decide_eq_true (by first | (with_reducible assumption) | assumption)
          obtain ⟨ad234, e234, hx234_0⟩ := Kd.at_int HR0.out 0 p234 q234
          cases e234
          have qi234 : (0 < l0.length) = True := eq_true (by omega)
          (try rw [show ((0 : Int)).toNat = 0 from rfl] at hx234_0)
          (try rw [Addr.add_zero'] at hx234_0)
          replace p234 := eq_true p234
          replace q234 := eq_true q234
          go_wp2
          go_meet
          case rel => exact ⟨_, (true), (by first | rfl | (simp; done) | (simp [*]; done) | kernel_rfl), H', ⟨by first | omega | exact Nat.le_refl _⟩, by repeat (first | exact Drawn0.refl _ | apply Drawn0.step)⟩
      · rw [if_neg c4] at H
        exact absurd H (by simp)
    · rw [if_neg c3] at H
      have c3b0 : ((l0.length : Int) == 2824) = false := beq_eq_false_iff_ne.mpr c3
      have c3b1 : ((l0.length : Int) != 2824) = true := bne_iff_ne.mpr c3
      (first | rw [c3b0] | (simp only [i64_w, i32_w]; rw [c3b0]) | skip)
      have H' := Aside0.mk H
      clear H
      go_wp2
      go_meet
      case rel => exact ⟨_, (true), (by first | rfl | (simp; done) | (simp [*]; done) | kernel_rfl), H', ⟨by first | omega | exact Nat.le_refl _⟩, by repeat (first | exact Drawn0.refl _ | apply Drawn0.step)⟩
  case rest =>
    clear HC2
    try clear c2
    try clear p2
    try clear q2
    try clear hx2
    try clear qi2
    try clear c3
    try clear c3b0
    try clear c3b1
    try clear c4
    try clear c4b0
    try clear c4b1
    try clear c5
    try clear c5b0
    try clear c5b1
    try clear c6
    try clear c6b0
    try clear c6b1
    try clear hx234_0
    try clear hx235_0
    try clear p234
    try clear p235
    try clear q234
    try clear q235
    obtain ⟨kq, x18_1, rfl, HA, HJ1, ⟨mc1, rfl⟩⟩ := hcut
    cases kq with
    | zero => exact absurd HA.out (by simp [escritoireref05_Right.j0])
    | succ kj1 =>
      have H := HA.out
      clear HA
      simp only [escritoireref05_Right.j0] at H
      by_cases c7 : x18_1 = true
      · subst c7
        have H1 : (some false) = some r := by rw [if_pos rfl] at H; exact H
        clear H
        have H := H1
        clear H1
        obtain rfl := Option.some.inj H
        go_wp2
        go_ret
        exact ⟨by first | rfl | (simp; done) | (simp [*]; done), by repeat (first | exact Drawn0.refl _ | apply Drawn0.step)⟩
      · replace c7 := Bool.eq_false_iff.mpr c7
        subst c7
        have H1 : (escritoireref05_Right.l0 kj1 l0 2) = some r := by rw [if_neg (show ¬ (false = true) by decide)] at H; exact H
        clear H
        have H := H1
        clear H1
        have H' := Aside0.mk H
        clear H
        go_wp2
        go_loopg [3] kj1 (fun kq v3 w' => ∃ (x3_2 : Int), v3 = .int .i64 x3_2 ∧ Aside0 (escritoireref05_Right.l0 kq l0 x3_2 = some r) ∧ Aside0 (kq ≤ kj1) ∧ Drawn0 w w')
        case atStart => exact ⟨(2), (by first | rfl | (simp; done) | (simp [*]; done) | kernel_rfl), H', ⟨Nat.le_refl _⟩, by repeat (first | exact Drawn0.refl _ | apply Drawn0.step)⟩
        case round =>
          clear H'
          try clear c1
          try clear c2
          try clear p2
          try clear q2
          try clear hx2
          try clear qi2
          try clear c3
          try clear c3b0
          try clear c3b1
          try clear c4
          try clear c4b0
          try clear c4b1
          try clear c5
          try clear c5b0
          try clear c5b1
          try clear c6
          try clear c6b0
          try clear c6b1
          try clear c7
          try clear hx234_0
          try clear hx235_0
          try clear p2
          try clear p234
          try clear p235
          try clear q2
          try clear q234
          try clear q235
          obtain ⟨x3_2, rfl, HA, HK2, ⟨m2, rfl⟩⟩ := hrel
          cases gk with
          | zero => exact absurd HA.out (by simp [escritoireref05_Right.l0])
          | succ k2 =>
            have H := HA.out
            clear HA
            simp only [escritoireref05_Right.l0] at H
            by_cases c8 : x3_2 < 8
            · rw [if_pos c8] at H
              have c8b0 : decide (x3_2 < 8) = true := decide_eq_true c8
              clear c8
              by_cases c9 : 0 ≤ x3_2
              · rw [if_pos c9] at H
                have c9b0 : decide (0 ≤ x3_2) = true := decide_eq_true c9
                clear c9
                by_cases c10 : x3_2 < (l0.length : Int)
                · rw [if_pos c10] at H
                  have c10b0 : decide (x3_2 < (l0.length : Int)) = true := decide_eq_true c10
                  clear c10
                  by_cases c11 : (rd l0 x3_2) = 0
                  · rw [if_pos c11] at H
                    have c11b0 : ((rd l0 x3_2) == 0) = true := beq_iff_eq.mpr c11
                    have c11b1 : ((rd l0 x3_2) != 0) = false := bne_eq_false_iff_eq.mpr c11
                    clear c11
                    have H' := Aside0.mk H
                    clear H
                    have p236 : 0 ≤ (x3_2 : Int) := of_decide_eq_true (by first | (with_reducible assumption) | assumption)
                    have q236 : x3_2 < (l0.length : Int) := of_decide_eq_true (by first | (with_reducible assumption) | assumption)
                    obtain ⟨ad236, e236, hx236_0⟩ := Kd.at_int HR0.out x3_2 p236 q236
                    cases e236
                    replace p236 := eq_true p236
                    replace q236 := eq_true q236
                    go_wp2
                    go_roundg k2
                    case measure => have := HJ1.out; have := HK2.out; omega
                    case rel => exact ⟨(wrap64 (x3_2 + 1)), (by first | rfl | (simp; done) | (simp [*]; done) | kernel_rfl), H', ⟨by have := HJ1.out; have := HK2.out; omega⟩, by repeat (first | exact Drawn0.refl _ | apply Drawn0.step)⟩
                  · rw [if_neg c11] at H
                    have c11b0 : ((rd l0 x3_2) == 0) = false := beq_eq_false_iff_ne.mpr c11
                    have c11b1 : ((rd l0 x3_2) != 0) = true := bne_iff_ne.mpr c11
                    obtain rfl := Option.some.inj H
                    have p236 : 0 ≤ (x3_2 : Int) := of_decide_eq_true (by first | (with_reducible assumption) | assumption)
                    have q236 : x3_2 < (l0.length : Int) := of_decide_eq_true (by first | (with_reducible assumption) | assumption)
                    obtain ⟨ad236, e236, hx236_0⟩ := Kd.at_int HR0.out x3_2 p236 q236
                    cases e236
                    replace p236 := eq_true p236
                    replace q236 := eq_true q236
                    go_wp2
                    go_ret
                    exact ⟨by first | rfl | (simp; done) | (simp [*]; done), by repeat (first | exact Drawn0.refl _ | apply Drawn0.step)⟩
                · rw [if_neg c10] at H
                  exact absurd H (by simp)
              · rw [if_neg c9] at H
                exact absurd H (by simp)
            · rw [if_neg c8] at H
              have c8b0 : decide (x3_2 < 8) = false := decide_eq_false c8
              clear c8
              obtain rfl := Option.some.inj H
              go_wp2
              go_ret
              exact ⟨by first | rfl | (simp; done) | (simp [*]; done), by repeat (first | exact Drawn0.refl _ | apply Drawn0.step)⟩

end Go.Proofs.Ytbiabamijodmiaa.Print
