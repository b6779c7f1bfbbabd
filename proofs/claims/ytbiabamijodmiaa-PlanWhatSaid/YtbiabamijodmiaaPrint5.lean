-- Made by wip/tools/wprint.py, a program of this workplace, over the translation. Lean checks it.
import Derived.Test.YtbiabamijodmiaaPrint0
import Derived.Test.YtbiabamijodmiaaPrint2
namespace Go.Proofs.Ytbiabamijodmiaa.Print
open Go.RowKit Go.Proofs.YtbiabamijodmiaaW.PrintWords Go.Proofs.YtbiabamijodmiaaW.PrintLast Go.Proofs.YtbiabamijodmiaaW.PrintMore
attribute [local go_sem] max2_int min2_int max_two min_two max_three min_three max_four min_four   -- for this text's walks alone
set_option linter.unusedVariables false
set_option linter.unusedSimpArgs false

/-! ### slices_Equal_uint64_uint64: function 26 -/
def slices_Equal_uint64_uint64.l0 : Nat → List Int → List Int → Int → Int → Option (Bool)
  | 0, _, _, _, _ => none
  | k + 1, x0, x1, x12, x13 => if x13 < x12 then (if 0 ≤ x13 then (if x13 < (x0.length : Int) then (if x13 < (x1.length : Int) then (if (rd x0 x13) = (rd x1 x13) then (slices_Equal_uint64_uint64.l0 k x0 x1 x12 (wrap64 (x13 + 1))) else (some false)) else (none)) else (none)) else (none)) else (some true)
def slices_Equal_uint64_uint64.f (k : Nat) (l0 : List Int) (l1 : List Int) : Option (Bool) := if (l0.length : Int) = (l1.length : Int) then (slices_Equal_uint64_uint64.l0 k l0 l1 (l0.length : Int) 0) else (some false)
theorem slices_Equal_uint64_uint64.mono_l : ∀ k, (∀ y0 y1 y2 y3, LeO (slices_Equal_uint64_uint64.l0 k y0 y1 y2 y3) (slices_Equal_uint64_uint64.l0 (k + 1) y0 y1 y2 y3))
  | 0 => fun _ _ _ _ r h => by simp [slices_Equal_uint64_uint64.l0] at h
  | k + 1 => by
    have ih0 := slices_Equal_uint64_uint64.mono_l k
    · intro y0 y1 y2 y3
      unfold slices_Equal_uint64_uint64.l0
      repeat' first
      | (with_reducible exact ih0 _ _ _ _)
      | (with_reducible exact LeO.refl _)
      | (with_reducible exact LeO.none _)
      | (with_reducible refine LeO.ite ?_ ?_)
      | (with_reducible refine LeO.bind ?_ (fun _ => ?_))
      | exact ih0 _ _ _ _
      | exact LeO.none _
      | refine LeO.ite ?_ ?_
      | refine LeO.bind ?_ (fun _ => ?_)
theorem slices_Equal_uint64_uint64.mono : ∀ a0 a1 k, LeO (slices_Equal_uint64_uint64.f k a0 a1) (slices_Equal_uint64_uint64.f (k + 1) a0 a1) := by
  intro a0 a1 k
  have ih0 := slices_Equal_uint64_uint64.mono_l k
  unfold slices_Equal_uint64_uint64.f
  repeat' first
      | (with_reducible exact ih0 _ _ _ _)
      | (with_reducible exact LeO.refl _)
      | (with_reducible exact LeO.none _)
      | (with_reducible refine LeO.ite ?_ ?_)
      | (with_reducible refine LeO.bind ?_ (fun _ => ?_))
      | exact ih0 _ _ _ _
      | exact LeO.none _
      | refine LeO.ite ?_ ?_
      | refine LeO.bind ?_ (fun _ => ?_)
set_option maxHeartbeats 8000000 in
set_option maxRecDepth 100000 in
theorem slices_Equal_uint64_uint64.calls (k : Nat) (A0 : Option Addr) (c0 : Nat) (l0 : List Int) (A1 : Option Addr) (c1 : Nat) (l1 : List Int) (r : Bool) (w : World) (hr0 : Kd.C (Kd.int .u64) w A0 l0.length l0) (hc0 : l0.length ≤ c0) (hr1 : Kd.C (Kd.int .u64) w A1 l1.length l1) (hc1 : l1.length ≤ c1) (h : slices_Equal_uint64_uint64.f k l0 l1 = some r) :
    Calls Try.prog 26 #[.slice A0 l0.length c0, .slice A1 l1.length c1] w fun e w' => e = .returned (.bool r) ∧ Drawn0 w w' := by
  have HR0 := Aside0.mk hr0
  have HC0 := Aside0.mk hc0
  clear hr0 hc0
  have HR1 := Aside0.mk hr1
  have HC1 := Aside0.mk hc1
  clear hr1 hc1
  have H : (if (l0.length : Int) = (l1.length : Int) then (slices_Equal_uint64_uint64.l0 k l0 l1 (l0.length : Int) 0) else (some false)) = some r := h
  clear h
  by_cases c3 : (l0.length : Int) = (l1.length : Int)
  · rw [if_pos c3] at H
    have c3b0 : ((l0.length : Int) == (l1.length : Int)) = true := beq_iff_eq.mpr c3
    have c3b1 : ((l0.length : Int) != (l1.length : Int)) = false := bne_eq_false_iff_eq.mpr c3
    have c3b2 : (l0.length == l1.length) = true := by first | simpa using c3 | (simp at c3 ⊢; omega)
    clear c3
    have H' := Aside0.mk H
    clear H
    go_enter Try.func26, Try.ntmps26
    go_wp2
    repeat (go_quiet (fail); try go_wp2)
    go_loopg [13] k (fun kq v13 w' => ∃ (x13_1 : Int), v13 = .int .i64 x13_1 ∧ Aside0 (slices_Equal_uint64_uint64.l0 kq l0 l1 (l0.length : Int) x13_1 = some r) ∧ Aside0 (kq ≤ k) ∧ Drawn0 w w')
    case atStart => exact ⟨(0), (by first | rfl | (simp; done) | (simp [*]; done) | kernel_rfl), H', ⟨Nat.le_refl _⟩, by repeat (first | exact Drawn0.refl _ | apply Drawn0.step)⟩
    case round =>
      clear H'
      try clear c1
      try clear c2
      try clear p2
      try clear c3
      try clear c3b0
      try clear c3b1
      try clear c3b2
      obtain ⟨x13_1, rfl, HA, HK1, ⟨m1, rfl⟩⟩ := hrel
      cases gk with
      | zero => exact absurd HA.out (by simp [slices_Equal_uint64_uint64.l0])
      | succ k1 =>
        have H := HA.out
        clear HA
        simp only [slices_Equal_uint64_uint64.l0] at H
        by_cases c4 : x13_1 < (l0.length : Int)
        · rw [if_pos c4] at H
          have c4b0 : decide (x13_1 < (l0.length : Int)) = true := decide_eq_true c4
          clear c4
          by_cases c5 : 0 ≤ x13_1
          · rw [if_pos c5] at H
            have c5b0 : decide (0 ≤ x13_1) = true := decide_eq_true c5
            clear c5
            by_cases c6 : x13_1 < (l0.length : Int)
            · rw [if_pos c6] at H
              have c6b0 : decide (x13_1 < (l0.length : Int)) = true := decide_eq_true c6
              clear c6
              by_cases c7 : x13_1 < (l1.length : Int)
              · rw [if_pos c7] at H
                have c7b0 : decide (x13_1 < (l1.length : Int)) = true := decide_eq_true c7
                clear c7
                by_cases c8 : (rd l0 x13_1) = (rd l1 x13_1)
                · rw [if_pos c8] at H
                  have c8b0 : ((rd l0 x13_1) == (rd l1 x13_1)) = true := beq_iff_eq.mpr c8
                  have c8b1 : ((rd l0 x13_1) != (rd l1 x13_1)) = false := bne_eq_false_iff_eq.mpr c8
                  clear c8
                  have H' := Aside0.mk H
                  clear H
                  have p191 : 0 ≤ (x13_1 : Int) := of_decide_eq_true (by first | (with_reducible assumption) | assumption)
                  have q191 : x13_1 < (l0.length : Int) := of_decide_eq_true (by first | (with_reducible assumption) | assumption)
                  obtain ⟨ad191, e191, hx191_0⟩ := Kd.at_int HR0.out x13_1 p191 q191
                  cases e191
                  replace p191 := eq_true p191
                  replace q191 := eq_true q191
                  have p192 : 0 ≤ (x13_1 : Int) := of_decide_eq_true (by first | (with_reducible assumption) | assumption)
                  have q192 : x13_1 < (l1.length : Int) := of_decide_eq_true (by first | (with_reducible assumption) | assumption)
                  obtain ⟨ad192, e192, hx192_0⟩ := Kd.at_int HR1.out x13_1 p192 q192
                  cases e192
                  replace p192 := eq_true p192
                  replace q192 := eq_true q192
                  go_wp2
                  repeat (go_quiet (fail); try go_wp2)
                  go_roundg k1
                  case measure => have := HK1.out; omega
                  case rel => exact ⟨(wrap64 (x13_1 + 1)), (by first | rfl | (simp; done) | (simp [*]; done) | kernel_rfl), H', ⟨by have := HK1.out; omega⟩, by repeat (first | exact Drawn0.refl _ | apply Drawn0.step)⟩
                · rw [if_neg c8] at H
                  have c8b0 : ((rd l0 x13_1) == (rd l1 x13_1)) = false := beq_eq_false_iff_ne.mpr c8
                  have c8b1 : ((rd l0 x13_1) != (rd l1 x13_1)) = true := bne_iff_ne.mpr c8
                  obtain rfl := Option.some.inj H
                  have p191 : 0 ≤ (x13_1 : Int) := of_decide_eq_true (by first | (with_reducible assumption) | assumption)
                  have q191 : x13_1 < (l0.length : Int) := of_decide_eq_true (by first | (with_reducible assumption) | assumption)
                  obtain ⟨ad191, e191, hx191_0⟩ := Kd.at_int HR0.out x13_1 p191 q191
                  cases e191
                  replace p191 := eq_true p191
                  replace q191 := eq_true q191
                  have p192 : 0 ≤ (x13_1 : Int) := of_decide_eq_true (by first | (with_reducible assumption) | assumption)
                  have q192 : x13_1 < (l1.length : Int) := of_decide_eq_true (by first | (with_reducible assumption) | assumption)
                  obtain ⟨ad192, e192, hx192_0⟩ := Kd.at_int HR1.out x13_1 p192 q192
                  cases e192
                  replace p192 := eq_true p192
                  replace q192 := eq_true q192
                  go_wp2
                  repeat (go_quiet (fail); try go_wp2)
                  go_ret
                  exact ⟨by first | rfl | (simp; done) | (simp [*]; done), by repeat (first | exact Drawn0.refl _ | apply Drawn0.step)⟩
              · rw [if_neg c7] at H
                exact absurd H (by simp)
            · rw [if_neg c6] at H
              exact absurd H (by simp)
          · rw [if_neg c5] at H
            exact absurd H (by simp)
        · rw [if_neg c4] at H
          have c4b0 : decide (x13_1 < (l0.length : Int)) = false := decide_eq_false c4
          clear c4
          obtain rfl := Option.some.inj H
          go_wp2
          repeat (go_quiet (fail); try go_wp2)
          go_ret
          exact ⟨by first | rfl | (simp; done) | (simp [*]; done), by repeat (first | exact Drawn0.refl _ | apply Drawn0.step)⟩
  · rw [if_neg c3] at H
    have c3b0 : ((l0.length : Int) == (l1.length : Int)) = false := beq_eq_false_iff_ne.mpr c3
    have c3b1 : ((l0.length : Int) != (l1.length : Int)) = true := bne_iff_ne.mpr c3
    have c3b2 : (l0.length == l1.length) = false := by first | simpa using c3 | (simp at c3 ⊢; omega)
    obtain rfl := Option.some.inj H
    go_enter Try.func26, Try.ntmps26
    go_wp2
    repeat (go_quiet (fail); try go_wp2)
    go_ret
    exact ⟨by first | rfl | (simp; done) | (simp [*]; done), by repeat (first | exact Drawn0.refl _ | apply Drawn0.step)⟩

/-! ### plan_Right: function 18 -/
def plan_Right.f (k : Nat) (l0 : List Int) : Option (Bool) := (plan_Size.f k).bind fun t193 => (if (l0.length : Int) = t193 then (if 8 ≤ (l0.length : Int) then ((plan_Head.f k).bind fun t198 => ((slices_Equal_uint64_uint64.f k (l0.take 8) t198).bind fun t201 => (some t201))) else (none)) else (some false))
theorem plan_Right.mono : ∀ a0 k, LeO (plan_Right.f k a0) (plan_Right.f (k + 1) a0) := by
  intro a0 k
  unfold plan_Right.f
  repeat' first
      | (with_reducible exact plan_Head.mono _)
      | (with_reducible exact plan_Size.mono _)
      | (with_reducible exact slices_Equal_uint64_uint64.mono _ _ _)
      | (with_reducible exact LeO.refl _)
      | (with_reducible exact LeO.none _)
      | (with_reducible refine LeO.ite ?_ ?_)
      | (with_reducible refine LeO.bind ?_ (fun _ => ?_))
      | exact plan_Head.mono _
      | exact plan_Size.mono _
      | exact slices_Equal_uint64_uint64.mono _ _ _
      | exact LeO.none _
      | refine LeO.ite ?_ ?_
      | refine LeO.bind ?_ (fun _ => ?_)
def plan_Right.T1 : Bool × List (List Nat × List Nat) := (true, [([], []), ([0], [0]), ([], []), ([1, 2], [1, 2]), ([3, 2], [3]), ([4], [4]), ([5, 4], [4, 5]), ([4, 4], [4]), ([6, 7, 7, 4], [4, 6, 7]), ([4, 8], [4, 8]), ([9, 8, 0, 1, 2, 3, 4, 5, 6, 7, 8, 9], [9])])
def plan_Right.B1 : List Nat := [0, 1, 0, 7, 15, 31, 63, 31, 255, 511, 1023]
theorem plan_Right.tab1 : rtab .any (opsOf Try.f18 1) = plan_Right.T1 := by kernel_rfl
theorem plan_Right.bits1 : waitsOk plan_Right.T1.2 plan_Right.B1 = true := by kernel_rfl
set_option maxHeartbeats 8000000 in
set_option maxRecDepth 100000 in
theorem plan_Right.calls (k : Nat) (A0 : Option Addr) (c0 : Nat) (l0 : List Int) (r : Bool) (w : World) (hr0 : Kd.C (Kd.int .u64) w A0 l0.length l0) (hc0 : l0.length ≤ c0) (h : plan_Right.f k l0 = some r) :
    Calls Try.prog 18 #[.slice A0 l0.length c0] w fun e w' => e = .returned (.bool r) ∧ Below w.heap.size w w' := by
  have HR0 := Aside0.mk hr0
  have HC0 := Aside0.mk hc0
  clear hr0 hc0
  have HB := Aside0.mk (Below.refl w.heap.size w)
  have H : ((plan_Size.f k).bind fun t193 => (if (l0.length : Int) = t193 then (if 8 ≤ (l0.length : Int) then ((plan_Head.f k).bind fun t198 => ((slices_Equal_uint64_uint64.f k (l0.take 8) t198).bind fun t201 => (some t201))) else (none)) else (some false))) = some r := h
  clear h
  replace H := Option.bind_eq_some_iff.mp H
  obtain ⟨t193, A20, H⟩ := H
  replace H : (if (l0.length : Int) = t193 then (if 8 ≤ (l0.length : Int) then ((plan_Head.f k).bind fun t198 => ((slices_Equal_uint64_uint64.f k (l0.take 8) t198).bind fun t201 => (some t201))) else (none)) else (some false)) = some r := H
  have A2 := Aside0.mk A20
  clear A20
  by_cases c3 : (l0.length : Int) = t193
  · rw [if_pos c3] at H
    have c3b0 : ((l0.length : Int) == t193) = true := beq_iff_eq.mpr c3
    have c3b1 : ((l0.length : Int) != t193) = false := bne_eq_false_iff_eq.mpr c3
    clear c3
    by_cases c4 : 8 ≤ (l0.length : Int)
    · rw [if_pos c4] at H
      have c4b0 := eq_true c4
      have c4b1 : decide (8 ≤ (l0.length : Int)) = true := decide_eq_true c4
      clear c4
      obtain ⟨y194, hy194⟩ : ∃ y_ : List Int, y_ = (l0.take 8) := ⟨_, rfl⟩
      replace H : ((plan_Head.f k).bind fun t198 => ((slices_Equal_uint64_uint64.f k y194 t198).bind fun t201 => (some t201))) = some r := by first | (rw [hy194]; with_reducible exact H) | (have H2_ := (Option.bind_some _ _).symm.trans H; rw [hy194]; with_reducible exact H2_) | (have H2_ := (Option.bind_some _ _).symm.trans H; with_reducible exact H2_) | with_reducible exact H | (rw [hy194]; exact H) | exact H
      have Ny194 := Aside0.mk hy194
      clear hy194
      replace H := Option.bind_eq_some_iff.mp H
      obtain ⟨t198, A50, H⟩ := H
      replace H : ((slices_Equal_uint64_uint64.f k y194 t198).bind fun t201 => (some t201)) = some r := H
      have A5 := Aside0.mk A50
      clear A50
      replace H := Option.bind_eq_some_iff.mp H
      obtain ⟨t201, A60, H⟩ := H
      replace H : (some t201) = some r := H
      have A6 := Aside0.mk A60
      clear A60
      obtain rfl := Option.some.inj H
      go_enter Try.func18, Try.ntmps18
      try go_wp2
      have n0_ := Aside0.mk (below_drew1 HB.out)
      clear HB
      have HB := n0_
      clear n0_
      refine start_ (n := 11) (S := fun w' => True) (ds := []) #[false, false, false, false, false, false, false, false, false, false, false] (by kernel_rfl) rfl rfl trivial (fun hHeld => ?_); refine with_tabW plan_Right.tab1 plan_Right.bits1 (fun HT_ HW_ => ?_)
      generalize w.drew = w7 at HB hHeld ⊢
      refine pure_ (i := 0) (N := some 3) (v := ?_) (a' := ?_) #[true, false, false, false, false, false, false, false, false, false, false] rfl rfl (any_of HT_.out (by kernel_rfl)) (fun _ _ _ h => h) (Or.inl ⟨by rfl, ?_⟩) ?_ ?_
      rotate_left
      · intro w'
        go_simp
        with_reducible rfl
      rotate_left
      · simp only [Act.put, List.setIfInBounds_toArray, List.set_cons_zero, List.set_cons_succ, i64_w, i32_w]
        rfl
      refine pure_ (i := 1) (N := some 4) (v := ?_) (a' := ?_) #[true, true, false, false, false, false, false, false, false, false, false] rfl rfl (any_of HT_.out (by kernel_rfl)) (fun _ _ _ h => h) (Or.inl ⟨by rfl, ?_⟩) ?_ ?_
      rotate_left
      · intro w'
        go_simp
        with_reducible rfl
      rotate_left
      · simp only [Act.put, List.setIfInBounds_toArray, List.set_cons_zero, List.set_cons_succ, i64_w, i32_w]
        rfl
      refine one_ (i := 2) (N := some 5) #[true, true, true, false, false, false, false, false, false, false, false] rfl rfl (one_of HT_.out (by kernel_rfl)) (by decide) (fun K hK => ?_)
      refine goes_ Try.func16 (by kernel_rfl) rfl #[] (by rfl) rfl rfl (by (try simp only [List.map_toArray, List.map_cons, List.map_nil]); first | done | rfl | (simp only [List.length_drop, List.length_take]; rfl)) ?_
      with_reducible refine (plan_Size.calls k  t193 _ A2.out).mono ?_
      rintro e w8 ⟨rfl, hb⟩
      refine ⟨_, rfl, ?_⟩
      have n0_ := Aside0.mk (below_step (by repeat (first | (with_reducible first | exact HB.out | apply below_alloc | apply pw_below_drewN | apply below_drew1) | exact HB.out)) hb)
      clear HB
      have HB := n0_
      clear n0_
      (try clear hb)
      (try clear hb2)
      (try clear hk)
      (try clear hi)
      have q9 : (8 : Int) ≤ ((l0.length : Int) : Int) := of_decide_eq_true (by first | (with_reducible assumption) | assumption)
      obtain ⟨i09, hi09, _, hsz9, _⟩ := info_parts info34
      have hroom9 : l0.length ≤ c0 := HC0.out
      have hC9 : Kd.C (Kd.int .u64) _ A0 l0.length l0 := HR0.out
      have hcut9 := cut_to (P := Try.prog) 33 34 .i64 Try.underlying33 hi09 A0 l0.length c0 8 (by omega) q9 hroom9
      have hr9 := Kd.C_take (m := 8) hC9 (by omega)
      have hy9 : y194.length = (8 : Int).toNat := (by rw [Ny194.out, List.length_take]; omega)
      rw [← Ny194.out] at hr9
      rw [← hy9] at hcut9
      have HR197 := Aside0.mk hr9
      have HC197 := Aside0.mk (show y194.length ≤ c0 from by omega)
      clear hr9 hC9 hroom9 hi09 hsz9
      have KY9 := Aside0.mk hy9
      clear hy9
      replace q9 := eq_true q9
      refine hK.out _ _ trivial (fun hHeld => ?_)
      clear hK K
      refine norm_ (a' := ?_) ?_ ?_
      rotate_left
      · show Act.put _ (some 5) _ = _
        simp only [Act.put, List.setIfInBounds_toArray, List.set_cons_zero, List.set_cons_succ, i64_w, i32_w]
        rfl
      refine pure_ (i := 3) (N := some 6) (v := ?_) (a' := ?_) #[true, true, true, true, false, false, false, false, false, false, false] rfl rfl (any_of HT_.out (by kernel_rfl)) (fun _ _ _ h => h) (Or.inl ⟨by rfl, ?_⟩) ?_ ?_
      rotate_left
      · intro w'
        go_simp
        with_reducible rfl
      rotate_left
      · simp only [Act.put, List.setIfInBounds_toArray, List.set_cons_zero, List.set_cons_succ, i64_w, i32_w]
        rfl
      refine pure_ (i := 4) (N := some 7) (v := ?_) (a' := ?_) #[true, true, true, true, true, false, false, false, false, false, false] rfl rfl (any_of HT_.out (by kernel_rfl)) (fun _ _ _ h => h) (Or.inl ⟨by rfl, ?_⟩) ?_ ?_
      rotate_left
      · intro w'
        go_simp
        with_reducible rfl
      rotate_left
      · simp only [Act.put, List.setIfInBounds_toArray, List.set_cons_zero, List.set_cons_succ, i64_w, i32_w]
        rfl
      refine pure_ (i := 5) (N := some 8) (v := ?_) (a' := ?_) #[true, true, true, true, true, true, false, false, false, false, false] rfl rfl (any_of HT_.out (by kernel_rfl)) (fun _ _ _ h => h) (Or.inl ⟨by rfl, ?_⟩) ?_ ?_
      rotate_left
      · intro w'
        go_simp
        with_reducible rfl
      rotate_left
      · simp only [Act.put, List.setIfInBounds_toArray, List.set_cons_zero, List.set_cons_succ, i64_w, i32_w]
        rfl
      refine pure_ (i := 6) (N := some 9) (v := ?_) (a' := ?_) #[true, true, true, true, true, true, true, false, false, false, false] rfl rfl (any_of HT_.out (by kernel_rfl)) (fun _ _ _ h => h) (Or.inl ⟨by rfl, ?_⟩) ?_ ?_
      rotate_left
      · intro w'
        go_simp
        with_reducible rfl
      rotate_left
      · simp only [Act.put, List.setIfInBounds_toArray, List.set_cons_zero, List.set_cons_succ, i64_w, i32_w]
        rfl
      refine one_ (i := 7) (N := some 10) #[true, true, true, true, true, true, true, true, false, false, false] rfl rfl (one_of HT_.out (by kernel_rfl)) (by decide) (fun K hK => ?_)
      refine goes_ Try.func17 (by kernel_rfl) rfl #[] (by rfl) rfl rfl (by (try simp only [List.map_toArray, List.map_cons, List.map_nil]); first | done | rfl | (simp only [List.length_drop, List.length_take]; rfl)) ?_
      with_reducible refine (plan_Head.calls k  t198 _ A5.out).mono ?_
      rintro e w10 ⟨v199, rfl, ho0, hb⟩
      refine ⟨_, rfl, ?_⟩
      have n0_ := Aside0.mk (Kd.R_lower ho0 (below_size (by repeat (first | (with_reducible first | exact HB.out | apply below_alloc | apply pw_below_drewN | apply below_drew1) | exact HB.out))))
      have n1_ := Aside0.mk (below_step (by repeat (first | (with_reducible first | exact HB.out | apply below_alloc | apply pw_below_drewN | apply below_drew1) | exact HB.out)) hb)
      clear HB
      have HO200 := n0_
      have HB := n1_
      clear n0_ n1_
      (try clear hb)
      (try clear hb2)
      (try clear hk)
      (try clear hi)
      (try clear ho0)
      obtain ⟨Ao11, co11, eo11⟩ := Kd.R_slice HO200.out
      (first | subst eo11 | (injection eo11 with f1_ f2_ f3_; have f4_ := f1_.symm; have f5_ := f3_.symm; clear f1_ f2_ f3_; subst f4_; subst f5_))
      refine hK.out _ _ trivial (fun hHeld => ?_)
      clear hK K
      refine norm_ (a' := ?_) ?_ ?_
      rotate_left
      · show Act.put _ (some 10) _ = _
        simp only [Act.put, List.setIfInBounds_toArray, List.set_cons_zero, List.set_cons_succ, i64_w, i32_w]
        rfl
      refine one_ (i := 8) (N := some 11) #[true, true, true, true, true, true, true, true, true, false, false] rfl rfl (one_of HT_.out (by kernel_rfl)) (by decide) (fun K hK => ?_)
      refine goes_ Try.func26 (by kernel_rfl) rfl #[.slice A0 y194.length c0, .slice Ao11 t198.length co11] (by rfl) rfl rfl (by (try simp only [List.map_toArray, List.map_cons, List.map_nil]); first | done | rfl | (simp only [List.length_drop, List.length_take]; rfl)) ?_
      with_reducible refine (slices_Equal_uint64_uint64.calls k _ _ y194 _ _ t198 t201 _ ?side1 ?side2 ?side3 ?side4 A6.out).mono ?_
      (case side1 => repeat (first | exact (Kd.C_below HR197.out HB.out) | (with_reducible refine Kd.C_alloc ?_ _) | (with_reducible refine Kd.C_drewN ?_ _) | (with_reducible refine Kd.C_drew ?_)))
      (case side2 => exact HC197.out)
      (case side3 => repeat (first | exact (Kd.R_reads' HO200.out).2.2 | (with_reducible refine Kd.C_alloc ?_ _) | (with_reducible refine Kd.C_drewN ?_ _) | (with_reducible refine Kd.C_drew ?_)))
      (case side4 => exact (Kd.R_reads' HO200.out).2.1)
      rintro e w' ⟨rfl, ⟨nd, rfl⟩⟩
      refine ⟨_, rfl, ?_⟩
      refine hK.out _ _ trivial (fun hHeld => ?_)
      clear hK K
      refine norm_ (a' := ?_) ?_ ?_
      rotate_left
      · show Act.put _ (some 11) _ = _
        simp only [Act.put, List.setIfInBounds_toArray, List.set_cons_zero, List.set_cons_succ, i64_w, i32_w]
        rfl
      refine pure_ (i := 9) (N := some 12) (v := ?_) (a' := ?_) #[true, true, true, true, true, true, true, true, true, true, false] rfl rfl (any_of HT_.out (by kernel_rfl)) (fun _ _ _ h => h) (Or.inl ⟨by rfl, ?_⟩) ?_ ?_
      rotate_left
      · intro w'
        go_simp
        with_reducible rfl
      rotate_left
      · simp only [Act.put, List.setIfInBounds_toArray, List.set_cons_zero, List.set_cons_succ, i64_w, i32_w]
        rfl
      refine pure_ (i := 10) (N := some 2) (v := ?_) (a' := ?_) #[true, true, true, true, true, true, true, true, true, true, true] rfl rfl (any_of HT_.out (by kernel_rfl)) (fun _ _ _ h => h) (Or.inl ⟨by rfl, ?_⟩) ?_ ?_
      rotate_left
      · intro w'
        go_simp
        with_reducible rfl
      rotate_left
      · simp only [Act.put, List.setIfInBounds_toArray, List.set_cons_zero, List.set_cons_succ, i64_w, i32_w]
        rfl
      refine done_ (done_of HT_.out (by kernel_rfl)) ?_
      try go_wp2
      go_ret
      exact ⟨by first | rfl | (simp [errW_none, errW_some] <;> rfl) | (simp [*, errW_none, errW_some] <;> rfl), by repeat (first | (with_reducible first | exact HB.out | apply below_alloc | apply pw_below_drewN | apply below_drew1) | exact HB.out)⟩
    · rw [if_neg c4] at H
      exact absurd H (by simp)
  · rw [if_neg c3] at H
    have c3b0 : ((l0.length : Int) == t193) = false := beq_eq_false_iff_ne.mpr c3
    have c3b1 : ((l0.length : Int) != t193) = true := bne_iff_ne.mpr c3
    obtain rfl := Option.some.inj H
    go_enter Try.func18, Try.ntmps18
    try go_wp2
    have n0_ := Aside0.mk (below_drew1 HB.out)
    clear HB
    have HB := n0_
    clear n0_
    refine start_ (n := 11) (S := fun w' => True) (ds := []) #[false, false, false, false, false, false, false, false, false, false, false] (by kernel_rfl) rfl rfl trivial (fun hHeld => ?_); refine with_tabW plan_Right.tab1 plan_Right.bits1 (fun HT_ HW_ => ?_)
    generalize w.drew = w12 at HB hHeld ⊢
    refine pure_ (i := 0) (N := some 3) (v := ?_) (a' := ?_) #[true, false, false, false, false, false, false, false, false, false, false] rfl rfl (any_of HT_.out (by kernel_rfl)) (fun _ _ _ h => h) (Or.inl ⟨by rfl, ?_⟩) ?_ ?_
    rotate_left
    · intro w'
      go_simp
      with_reducible rfl
    rotate_left
    · simp only [Act.put, List.setIfInBounds_toArray, List.set_cons_zero, List.set_cons_succ, i64_w, i32_w]
      rfl
    refine pure_ (i := 1) (N := some 4) (v := ?_) (a' := ?_) #[true, true, false, false, false, false, false, false, false, false, false] rfl rfl (any_of HT_.out (by kernel_rfl)) (fun _ _ _ h => h) (Or.inl ⟨by rfl, ?_⟩) ?_ ?_
    rotate_left
    · intro w'
      go_simp
      with_reducible rfl
    rotate_left
    · simp only [Act.put, List.setIfInBounds_toArray, List.set_cons_zero, List.set_cons_succ, i64_w, i32_w]
      rfl
    refine one_ (i := 2) (N := some 5) #[true, true, true, false, false, false, false, false, false, false, false] rfl rfl (one_of HT_.out (by kernel_rfl)) (by decide) (fun K hK => ?_)
    refine goes_ Try.func16 (by kernel_rfl) rfl #[] (by rfl) rfl rfl (by (try simp only [List.map_toArray, List.map_cons, List.map_nil]); first | done | rfl | (simp only [List.length_drop, List.length_take]; rfl)) ?_
    with_reducible refine (plan_Size.calls k  t193 _ A2.out).mono ?_
    rintro e w13 ⟨rfl, hb⟩
    refine ⟨_, rfl, ?_⟩
    have n0_ := Aside0.mk (below_step (by repeat (first | (with_reducible first | exact HB.out | apply below_alloc | apply pw_below_drewN | apply below_drew1) | exact HB.out)) hb)
    clear HB
    have HB := n0_
    clear n0_
    (try clear hb)
    (try clear hb2)
    (try clear hk)
    (try clear hi)
    refine hK.out _ _ trivial (fun hHeld => ?_)
    clear hK K
    refine norm_ (a' := ?_) ?_ ?_
    rotate_left
    · show Act.put _ (some 5) _ = _
      simp only [Act.put, List.setIfInBounds_toArray, List.set_cons_zero, List.set_cons_succ, i64_w, i32_w]
      rfl
    refine pure_ (i := 3) (N := some 6) (v := ?_) (a' := ?_) #[true, true, true, true, false, false, false, false, false, false, false] rfl rfl (any_of HT_.out (by kernel_rfl)) (fun _ _ _ h => h) (Or.inl ⟨by rfl, ?_⟩) ?_ ?_
    rotate_left
    · intro w'
      go_simp
      with_reducible rfl
    rotate_left
    · simp only [Act.put, List.setIfInBounds_toArray, List.set_cons_zero, List.set_cons_succ, i64_w, i32_w]
      rfl
    refine pure_ (i := 4) (N := some 7) (v := ?_) (a' := ?_) #[true, true, true, true, true, false, false, false, false, false, false] rfl rfl (any_of HT_.out (by kernel_rfl)) (fun _ _ _ h => h) (Or.inl ⟨by rfl, ?_⟩) ?_ ?_
    rotate_left
    · intro w'
      go_simp
      with_reducible rfl
    rotate_left
    · simp only [Act.put, List.setIfInBounds_toArray, List.set_cons_zero, List.set_cons_succ, i64_w, i32_w]
      rfl
    refine pure_ (i := 5) (N := some 8) (v := undef) (a' := ?_) #[true, true, true, true, true, true, false, false, false, false, false] rfl rfl (any_of HT_.out (by kernel_rfl)) (fun _ _ _ h => h) (Or.inr ⟨by rfl, rfl⟩) ?_ ?_
    rotate_left
    · simp only [Act.put, List.setIfInBounds_toArray, List.set_cons_zero, List.set_cons_succ, i64_w, i32_w]
      rfl
    refine pure_ (i := 6) (N := some 9) (v := undef) (a' := ?_) #[true, true, true, true, true, true, true, false, false, false, false] rfl rfl (any_of HT_.out (by kernel_rfl)) (fun _ _ _ h => h) (Or.inr ⟨by rfl, rfl⟩) ?_ ?_
    rotate_left
    · simp only [Act.put, List.setIfInBounds_toArray, List.set_cons_zero, List.set_cons_succ, i64_w, i32_w]
      rfl
    refine pure_ (i := 7) (N := some 10) (v := undef) (a' := ?_) #[true, true, true, true, true, true, true, true, false, false, false] rfl rfl (any_of HT_.out (by kernel_rfl)) (fun _ _ _ h => h) (Or.inr ⟨by rfl, rfl⟩) ?_ ?_
    rotate_left
    · simp only [Act.put, List.setIfInBounds_toArray, List.set_cons_zero, List.set_cons_succ, i64_w, i32_w]
      rfl
    refine pure_ (i := 8) (N := some 11) (v := undef) (a' := ?_) #[true, true, true, true, true, true, true, true, true, false, false] rfl rfl (any_of HT_.out (by kernel_rfl)) (fun _ _ _ h => h) (Or.inr ⟨by rfl, rfl⟩) ?_ ?_
    rotate_left
    · simp only [Act.put, List.setIfInBounds_toArray, List.set_cons_zero, List.set_cons_succ, i64_w, i32_w]
      rfl
    refine pure_ (i := 9) (N := some 12) (v := ?_) (a' := ?_) #[true, true, true, true, true, true, true, true, true, true, false] rfl rfl (any_of HT_.out (by kernel_rfl)) (fun _ _ _ h => h) (Or.inl ⟨by rfl, ?_⟩) ?_ ?_
    rotate_left
    · intro w'
      go_simp
      with_reducible rfl
    rotate_left
    · simp only [Act.put, List.setIfInBounds_toArray, List.set_cons_zero, List.set_cons_succ, i64_w, i32_w]
      rfl
    refine pure_ (i := 10) (N := some 2) (v := ?_) (a' := ?_) #[true, true, true, true, true, true, true, true, true, true, true] rfl rfl (any_of HT_.out (by kernel_rfl)) (fun _ _ _ h => h) (Or.inl ⟨by rfl, ?_⟩) ?_ ?_
    rotate_left
    · intro w'
      go_simp
      with_reducible rfl
    rotate_left
    · simp only [Act.put, List.setIfInBounds_toArray, List.set_cons_zero, List.set_cons_succ, i64_w, i32_w]
      rfl
    refine done_ (done_of HT_.out (by kernel_rfl)) ?_
    try go_wp2
    go_ret
    exact ⟨by first | rfl | (simp [errW_none, errW_some] <;> rfl) | (simp [*, errW_none, errW_some] <;> rfl), by repeat (first | (with_reducible first | exact HB.out | apply below_alloc | apply pw_below_drewN | apply below_drew1) | exact HB.out)⟩

/-! ### escritoirelaw05_PlanHead: function 6 -/
def escritoirelaw05_PlanHead.f (k : Nat) (l0 : List Int) (a1 : Int) (a2 : Int) : Option (Bool) := (escritoirelaw05_lives.f k).bind fun t202 => (if t202 = true then ((plan_Size.f k).bind fun t203 => (if 0 ≤ t203 then (if (t203 : Int).toNat ≤ 35184372088832 then ((some (List.replicate (t203 : Int).toNat 0 : List Int)).bind fun y204 => (if 8 ≤ (y204.length : Int) then ((plan_Head.f k).bind fun t212 => ((some (cpy (cpy y204 8 l0) 0 t212 : List Int)).bind fun y215 => ((plan_Right.f k y215).bind fun t216 => (if t216 = true then (if ([] : List Int).length + y215.length < 17592186044416 then ((some (([] : List Int) ++ y215 : List Int)).bind fun y217 => (if y217.length < 17592186044416 then ((plan_Right.f k (y217 ++ [0])).bind fun t223 => (if t223 = true then (some false) else (if 1 ≤ (y204.length : Int) then ((plan_Right.f k (y215.drop 1)).bind fun t228 => (if t228 = true then (some false) else (if 0 ≤ (wrap64 (Int.tmod (IntKind.u64.wrap (a1)) 8)) then (if (wrap64 (Int.tmod (IntKind.u64.wrap (a1)) 8)) < (y204.length : Int) then ((plan_Right.f k (y215.set ((wrap64 (Int.tmod (IntKind.u64.wrap (a1)) 8)) : Int).toNat a2)).bind fun t231 => (some (t231 == (a2 == (rd y215 (wrap64 (Int.tmod (IntKind.u64.wrap (a1)) 8))))))) else (none)) else (none)))) else (none)))) else (none))) else (none)) else (some false))))) else (none))) else (none)) else (none))) else (some false))
theorem escritoirelaw05_PlanHead.mono : ∀ a0 a1 a2 k, LeO (escritoirelaw05_PlanHead.f k a0 a1 a2) (escritoirelaw05_PlanHead.f (k + 1) a0 a1 a2) := by
  intro a0 a1 a2 k
  unfold escritoirelaw05_PlanHead.f
  repeat' first
      | (with_reducible exact escritoirelaw05_lives.mono _)
      | (with_reducible exact plan_Head.mono _)
      | (with_reducible exact plan_Right.mono _ _)
      | (with_reducible exact plan_Size.mono _)
      | (with_reducible exact LeO.refl _)
      | (with_reducible exact LeO.none _)
      | (with_reducible refine LeO.ite ?_ ?_)
      | (with_reducible refine LeO.bind ?_ (fun _ => ?_))
      | exact escritoirelaw05_lives.mono _
      | exact plan_Head.mono _
      | exact plan_Right.mono _ _
      | exact plan_Size.mono _
      | exact LeO.none _
      | refine LeO.ite ?_ ?_
      | refine LeO.bind ?_ (fun _ => ?_)
set_option maxHeartbeats 8000000 in
set_option maxRecDepth 100000 in
theorem escritoirelaw05_PlanHead.calls (k : Nat) (A0 : Option Addr) (c0 : Nat) (l0 : List Int) (a1 : Int) (a2 : Int) (r : Bool) (w : World) (hr0 : Kd.C (Kd.int .u64) w A0 l0.length l0) (hc0 : l0.length ≤ c0) (h : escritoirelaw05_PlanHead.f k l0 a1 a2 = some r) :
    Calls Try.prog 6 #[.slice A0 l0.length c0, .int .i64 a1, .int .u64 a2] w fun e w' => e = .returned (.bool r) ∧ Below w.heap.size w w' := by
  have HR0 := Aside0.mk hr0
  have HC0 := Aside0.mk hc0
  clear hr0 hc0
  have HB := Aside0.mk (Below.refl w.heap.size w)
  have H : ((escritoirelaw05_lives.f k).bind fun t202 => (if t202 = true then ((plan_Size.f k).bind fun t203 => (if 0 ≤ t203 then (if (t203 : Int).toNat ≤ 35184372088832 then ((some (List.replicate (t203 : Int).toNat 0 : List Int)).bind fun y204 => (if 8 ≤ (y204.length : Int) then ((plan_Head.f k).bind fun t212 => ((some (cpy (cpy y204 8 l0) 0 t212 : List Int)).bind fun y215 => ((plan_Right.f k y215).bind fun t216 => (if t216 = true then (if ([] : List Int).length + y215.length < 17592186044416 then ((some (([] : List Int) ++ y215 : List Int)).bind fun y217 => (if y217.length < 17592186044416 then ((plan_Right.f k (y217 ++ [0])).bind fun t223 => (if t223 = true then (some false) else (if 1 ≤ (y204.length : Int) then ((plan_Right.f k (y215.drop 1)).bind fun t228 => (if t228 = true then (some false) else (if 0 ≤ (wrap64 (Int.tmod (IntKind.u64.wrap (a1)) 8)) then (if (wrap64 (Int.tmod (IntKind.u64.wrap (a1)) 8)) < (y204.length : Int) then ((plan_Right.f k (y215.set ((wrap64 (Int.tmod (IntKind.u64.wrap (a1)) 8)) : Int).toNat a2)).bind fun t231 => (some (t231 == (a2 == (rd y215 (wrap64 (Int.tmod (IntKind.u64.wrap (a1)) 8))))))) else (none)) else (none)))) else (none)))) else (none))) else (none)) else (some false))))) else (none))) else (none)) else (none))) else (some false))) = some r := h
  clear h
  replace H := Option.bind_eq_some_iff.mp H
  obtain ⟨t202, A40, H⟩ := H
  replace H : (if t202 = true then ((plan_Size.f k).bind fun t203 => (if 0 ≤ t203 then (if (t203 : Int).toNat ≤ 35184372088832 then ((some (List.replicate (t203 : Int).toNat 0 : List Int)).bind fun y204 => (if 8 ≤ (y204.length : Int) then ((plan_Head.f k).bind fun t212 => ((some (cpy (cpy y204 8 l0) 0 t212 : List Int)).bind fun y215 => ((plan_Right.f k y215).bind fun t216 => (if t216 = true then (if ([] : List Int).length + y215.length < 17592186044416 then ((some (([] : List Int) ++ y215 : List Int)).bind fun y217 => (if y217.length < 17592186044416 then ((plan_Right.f k (y217 ++ [0])).bind fun t223 => (if t223 = true then (some false) else (if 1 ≤ (y204.length : Int) then ((plan_Right.f k (y215.drop 1)).bind fun t228 => (if t228 = true then (some false) else (if 0 ≤ (wrap64 (Int.tmod (IntKind.u64.wrap (a1)) 8)) then (if (wrap64 (Int.tmod (IntKind.u64.wrap (a1)) 8)) < (y204.length : Int) then ((plan_Right.f k (y215.set ((wrap64 (Int.tmod (IntKind.u64.wrap (a1)) 8)) : Int).toNat a2)).bind fun t231 => (some (t231 == (a2 == (rd y215 (wrap64 (Int.tmod (IntKind.u64.wrap (a1)) 8))))))) else (none)) else (none)))) else (none)))) else (none))) else (none)) else (some false))))) else (none))) else (none)) else (none))) else (some false)) = some r := H
  have A4 := Aside0.mk A40
  clear A40
  by_cases c5 : t202 = true
  · subst c5
    have H1 : ((plan_Size.f k).bind fun t203 => (if 0 ≤ t203 then (if (t203 : Int).toNat ≤ 35184372088832 then ((some (List.replicate (t203 : Int).toNat 0 : List Int)).bind fun y204 => (if 8 ≤ (y204.length : Int) then ((plan_Head.f k).bind fun t212 => ((some (cpy (cpy y204 8 l0) 0 t212 : List Int)).bind fun y215 => ((plan_Right.f k y215).bind fun t216 => (if t216 = true then (if ([] : List Int).length + y215.length < 17592186044416 then ((some (([] : List Int) ++ y215 : List Int)).bind fun y217 => (if y217.length < 17592186044416 then ((plan_Right.f k (y217 ++ [0])).bind fun t223 => (if t223 = true then (some false) else (if 1 ≤ (y204.length : Int) then ((plan_Right.f k (y215.drop 1)).bind fun t228 => (if t228 = true then (some false) else (if 0 ≤ (wrap64 (Int.tmod (IntKind.u64.wrap (a1)) 8)) then (if (wrap64 (Int.tmod (IntKind.u64.wrap (a1)) 8)) < (y204.length : Int) then ((plan_Right.f k (y215.set ((wrap64 (Int.tmod (IntKind.u64.wrap (a1)) 8)) : Int).toNat a2)).bind fun t231 => (some (t231 == (a2 == (rd y215 (wrap64 (Int.tmod (IntKind.u64.wrap (a1)) 8))))))) else (none)) else (none)))) else (none)))) else (none))) else (none)) else (some false))))) else (none))) else (none)) else (none))) = some r := by rw [if_pos rfl] at H; exact H
    clear H
    have H := H1
    clear H1
    replace H := Option.bind_eq_some_iff.mp H
    obtain ⟨t203, A60, H⟩ := H
    replace H : (if 0 ≤ t203 then (if (t203 : Int).toNat ≤ 35184372088832 then ((some (List.replicate (t203 : Int).toNat 0 : List Int)).bind fun y204 => (if 8 ≤ (y204.length : Int) then ((plan_Head.f k).bind fun t212 => ((some (cpy (cpy y204 8 l0) 0 t212 : List Int)).bind fun y215 => ((plan_Right.f k y215).bind fun t216 => (if t216 = true then (if ([] : List Int).length + y215.length < 17592186044416 then ((some (([] : List Int) ++ y215 : List Int)).bind fun y217 => (if y217.length < 17592186044416 then ((plan_Right.f k (y217 ++ [0])).bind fun t223 => (if t223 = true then (some false) else (if 1 ≤ (y204.length : Int) then ((plan_Right.f k (y215.drop 1)).bind fun t228 => (if t228 = true then (some false) else (if 0 ≤ (wrap64 (Int.tmod (IntKind.u64.wrap (a1)) 8)) then (if (wrap64 (Int.tmod (IntKind.u64.wrap (a1)) 8)) < (y204.length : Int) then ((plan_Right.f k (y215.set ((wrap64 (Int.tmod (IntKind.u64.wrap (a1)) 8)) : Int).toNat a2)).bind fun t231 => (some (t231 == (a2 == (rd y215 (wrap64 (Int.tmod (IntKind.u64.wrap (a1)) 8))))))) else (none)) else (none)))) else (none)))) else (none))) else (none)) else (some false))))) else (none))) else (none)) else (none)) = some r := H
    have A6 := Aside0.mk A60
    clear A60
    by_cases c7 : 0 ≤ t203
    · rw [if_pos c7] at H
      have c7b0 := eq_true c7
      have c7b1 : decide (0 ≤ t203) = true := decide_eq_true c7
      clear c7
      by_cases c8 : (t203 : Int).toNat ≤ 35184372088832
      · rw [if_pos c8] at H
        have c8b0 := eq_true c8
        have c8b1 : decide ((t203 : Int).toNat ≤ 35184372088832) = true := decide_eq_true c8
        clear c8
        obtain ⟨y204, hy204⟩ : ∃ y_ : List Int, y_ = (List.replicate (t203 : Int).toNat 0) := ⟨_, rfl⟩
        replace H : (if 8 ≤ (y204.length : Int) then ((plan_Head.f k).bind fun t212 => ((some (cpy (cpy y204 8 l0) 0 t212 : List Int)).bind fun y215 => ((plan_Right.f k y215).bind fun t216 => (if t216 = true then (if ([] : List Int).length + y215.length < 17592186044416 then ((some (([] : List Int) ++ y215 : List Int)).bind fun y217 => (if y217.length < 17592186044416 then ((plan_Right.f k (y217 ++ [0])).bind fun t223 => (if t223 = true then (some false) else (if 1 ≤ (y204.length : Int) then ((plan_Right.f k (y215.drop 1)).bind fun t228 => (if t228 = true then (some false) else (if 0 ≤ (wrap64 (Int.tmod (IntKind.u64.wrap (a1)) 8)) then (if (wrap64 (Int.tmod (IntKind.u64.wrap (a1)) 8)) < (y204.length : Int) then ((plan_Right.f k (y215.set ((wrap64 (Int.tmod (IntKind.u64.wrap (a1)) 8)) : Int).toNat a2)).bind fun t231 => (some (t231 == (a2 == (rd y215 (wrap64 (Int.tmod (IntKind.u64.wrap (a1)) 8))))))) else (none)) else (none)))) else (none)))) else (none))) else (none)) else (some false))))) else (none)) = some r := by first | (rw [hy204]; with_reducible exact H) | (have H2_ := (Option.bind_some _ _).symm.trans H; rw [hy204]; with_reducible exact H2_) | (have H2_ := (Option.bind_some _ _).symm.trans H; with_reducible exact H2_) | with_reducible exact H | (rw [hy204]; exact H) | exact H
        have Ny204 := Aside0.mk hy204
        clear hy204
        by_cases c9 : 8 ≤ (y204.length : Int)
        · rw [if_pos c9] at H
          have c9b0 := eq_true c9
          have c9b1 : decide (8 ≤ (y204.length : Int)) = true := decide_eq_true c9
          clear c9
          obtain ⟨y207, hy207⟩ : ∃ y_ : List Int, y_ = (y204.drop 8) := ⟨_, rfl⟩
          replace H : ((plan_Head.f k).bind fun t212 => ((some (cpy (cpy y204 8 l0) 0 t212 : List Int)).bind fun y215 => ((plan_Right.f k y215).bind fun t216 => (if t216 = true then (if ([] : List Int).length + y215.length < 17592186044416 then ((some (([] : List Int) ++ y215 : List Int)).bind fun y217 => (if y217.length < 17592186044416 then ((plan_Right.f k (y217 ++ [0])).bind fun t223 => (if t223 = true then (some false) else (if 1 ≤ (y204.length : Int) then ((plan_Right.f k (y215.drop 1)).bind fun t228 => (if t228 = true then (some false) else (if 0 ≤ (wrap64 (Int.tmod (IntKind.u64.wrap (a1)) 8)) then (if (wrap64 (Int.tmod (IntKind.u64.wrap (a1)) 8)) < (y204.length : Int) then ((plan_Right.f k (y215.set ((wrap64 (Int.tmod (IntKind.u64.wrap (a1)) 8)) : Int).toNat a2)).bind fun t231 => (some (t231 == (a2 == (rd y215 (wrap64 (Int.tmod (IntKind.u64.wrap (a1)) 8))))))) else (none)) else (none)))) else (none)))) else (none))) else (none)) else (some false))))) = some r := by first | (rw [hy207]; with_reducible exact H) | (have H2_ := (Option.bind_some _ _).symm.trans H; rw [hy207]; with_reducible exact H2_) | (have H2_ := (Option.bind_some _ _).symm.trans H; with_reducible exact H2_) | with_reducible exact H | (rw [hy207]; exact H) | exact H
          have Ny207 := Aside0.mk hy207
          clear hy207
          obtain ⟨y211, hy211⟩ : ∃ y_ : List Int, y_ = (cpy y204 8 l0) := ⟨_, rfl⟩
          replace H : ((plan_Head.f k).bind fun t212 => ((some (cpy y211 0 t212 : List Int)).bind fun y215 => ((plan_Right.f k y215).bind fun t216 => (if t216 = true then (if ([] : List Int).length + y215.length < 17592186044416 then ((some (([] : List Int) ++ y215 : List Int)).bind fun y217 => (if y217.length < 17592186044416 then ((plan_Right.f k (y217 ++ [0])).bind fun t223 => (if t223 = true then (some false) else (if 1 ≤ (y204.length : Int) then ((plan_Right.f k (y215.drop 1)).bind fun t228 => (if t228 = true then (some false) else (if 0 ≤ (wrap64 (Int.tmod (IntKind.u64.wrap (a1)) 8)) then (if (wrap64 (Int.tmod (IntKind.u64.wrap (a1)) 8)) < (y204.length : Int) then ((plan_Right.f k (y215.set ((wrap64 (Int.tmod (IntKind.u64.wrap (a1)) 8)) : Int).toNat a2)).bind fun t231 => (some (t231 == (a2 == (rd y215 (wrap64 (Int.tmod (IntKind.u64.wrap (a1)) 8))))))) else (none)) else (none)))) else (none)))) else (none))) else (none)) else (some false))))) = some r := by first | (rw [hy211]; with_reducible exact H) | (have H2_ := (Option.bind_some _ _).symm.trans H; rw [hy211]; with_reducible exact H2_) | (have H2_ := (Option.bind_some _ _).symm.trans H; with_reducible exact H2_) | with_reducible exact H | (rw [hy211]; exact H) | exact H
          have Ny211 := Aside0.mk hy211
          clear hy211
          replace H := Option.bind_eq_some_iff.mp H
          obtain ⟨t212, A100, H⟩ := H
          replace H : ((some (cpy y211 0 t212 : List Int)).bind fun y215 => ((plan_Right.f k y215).bind fun t216 => (if t216 = true then (if ([] : List Int).length + y215.length < 17592186044416 then ((some (([] : List Int) ++ y215 : List Int)).bind fun y217 => (if y217.length < 17592186044416 then ((plan_Right.f k (y217 ++ [0])).bind fun t223 => (if t223 = true then (some false) else (if 1 ≤ (y204.length : Int) then ((plan_Right.f k (y215.drop 1)).bind fun t228 => (if t228 = true then (some false) else (if 0 ≤ (wrap64 (Int.tmod (IntKind.u64.wrap (a1)) 8)) then (if (wrap64 (Int.tmod (IntKind.u64.wrap (a1)) 8)) < (y204.length : Int) then ((plan_Right.f k (y215.set ((wrap64 (Int.tmod (IntKind.u64.wrap (a1)) 8)) : Int).toNat a2)).bind fun t231 => (some (t231 == (a2 == (rd y215 (wrap64 (Int.tmod (IntKind.u64.wrap (a1)) 8))))))) else (none)) else (none)))) else (none)))) else (none))) else (none)) else (some false)))) = some r := H
          have A10 := Aside0.mk A100
          clear A100
          obtain ⟨y215, hy215⟩ : ∃ y_ : List Int, y_ = (cpy y211 0 t212) := ⟨_, rfl⟩
          replace H : ((plan_Right.f k y215).bind fun t216 => (if t216 = true then (if ([] : List Int).length + y215.length < 17592186044416 then ((some (([] : List Int) ++ y215 : List Int)).bind fun y217 => (if y217.length < 17592186044416 then ((plan_Right.f k (y217 ++ [0])).bind fun t223 => (if t223 = true then (some false) else (if 1 ≤ (y204.length : Int) then ((plan_Right.f k (y215.drop 1)).bind fun t228 => (if t228 = true then (some false) else (if 0 ≤ (wrap64 (Int.tmod (IntKind.u64.wrap (a1)) 8)) then (if (wrap64 (Int.tmod (IntKind.u64.wrap (a1)) 8)) < (y204.length : Int) then ((plan_Right.f k (y215.set ((wrap64 (Int.tmod (IntKind.u64.wrap (a1)) 8)) : Int).toNat a2)).bind fun t231 => (some (t231 == (a2 == (rd y215 (wrap64 (Int.tmod (IntKind.u64.wrap (a1)) 8))))))) else (none)) else (none)))) else (none)))) else (none))) else (none)) else (some false))) = some r := by first | (rw [hy215]; with_reducible exact H) | (have H2_ := (Option.bind_some _ _).symm.trans H; rw [hy215]; with_reducible exact H2_) | (have H2_ := (Option.bind_some _ _).symm.trans H; with_reducible exact H2_) | with_reducible exact H | (rw [hy215]; exact H) | exact H
          have Ny215 := Aside0.mk hy215
          clear hy215
          replace H := Option.bind_eq_some_iff.mp H
          obtain ⟨t216, A110, H⟩ := H
          replace H : (if t216 = true then (if ([] : List Int).length + y215.length < 17592186044416 then ((some (([] : List Int) ++ y215 : List Int)).bind fun y217 => (if y217.length < 17592186044416 then ((plan_Right.f k (y217 ++ [0])).bind fun t223 => (if t223 = true then (some false) else (if 1 ≤ (y204.length : Int) then ((plan_Right.f k (y215.drop 1)).bind fun t228 => (if t228 = true then (some false) else (if 0 ≤ (wrap64 (Int.tmod (IntKind.u64.wrap (a1)) 8)) then (if (wrap64 (Int.tmod (IntKind.u64.wrap (a1)) 8)) < (y204.length : Int) then ((plan_Right.f k (y215.set ((wrap64 (Int.tmod (IntKind.u64.wrap (a1)) 8)) : Int).toNat a2)).bind fun t231 => (some (t231 == (a2 == (rd y215 (wrap64 (Int.tmod (IntKind.u64.wrap (a1)) 8))))))) else (none)) else (none)))) else (none)))) else (none))) else (none)) else (some false)) = some r := H
          have A11 := Aside0.mk A110
          clear A110
          by_cases c12 : t216 = true
          · subst c12
            have H1 : (if ([] : List Int).length + y215.length < 17592186044416 then ((some (([] : List Int) ++ y215 : List Int)).bind fun y217 => (if y217.length < 17592186044416 then ((plan_Right.f k (y217 ++ [0])).bind fun t223 => (if t223 = true then (some false) else (if 1 ≤ (y204.length : Int) then ((plan_Right.f k (y215.drop 1)).bind fun t228 => (if t228 = true then (some false) else (if 0 ≤ (wrap64 (Int.tmod (IntKind.u64.wrap (a1)) 8)) then (if (wrap64 (Int.tmod (IntKind.u64.wrap (a1)) 8)) < (y204.length : Int) then ((plan_Right.f k (y215.set ((wrap64 (Int.tmod (IntKind.u64.wrap (a1)) 8)) : Int).toNat a2)).bind fun t231 => (some (t231 == (a2 == (rd y215 (wrap64 (Int.tmod (IntKind.u64.wrap (a1)) 8))))))) else (none)) else (none)))) else (none)))) else (none))) else (none)) = some r := by rw [if_pos rfl] at H; exact H
            clear H
            have H := H1
            clear H1
            by_cases c13 : ([] : List Int).length + y215.length < 17592186044416
            · rw [if_pos c13] at H
              have LMc13 := Aside0.mk c13
              clear c13
              obtain ⟨y217, hy217⟩ : ∃ y_ : List Int, y_ = (([] : List Int) ++ y215) := ⟨_, rfl⟩
              replace H : (if y217.length < 17592186044416 then ((plan_Right.f k (y217 ++ [0])).bind fun t223 => (if t223 = true then (some false) else (if 1 ≤ (y204.length : Int) then ((plan_Right.f k (y215.drop 1)).bind fun t228 => (if t228 = true then (some false) else (if 0 ≤ (wrap64 (Int.tmod (IntKind.u64.wrap (a1)) 8)) then (if (wrap64 (Int.tmod (IntKind.u64.wrap (a1)) 8)) < (y204.length : Int) then ((plan_Right.f k (y215.set ((wrap64 (Int.tmod (IntKind.u64.wrap (a1)) 8)) : Int).toNat a2)).bind fun t231 => (some (t231 == (a2 == (rd y215 (wrap64 (Int.tmod (IntKind.u64.wrap (a1)) 8))))))) else (none)) else (none)))) else (none)))) else (none)) = some r := by first | (rw [hy217]; with_reducible exact H) | (have H2_ := (Option.bind_some _ _).symm.trans H; rw [hy217]; with_reducible exact H2_) | (have H2_ := (Option.bind_some _ _).symm.trans H; with_reducible exact H2_) | with_reducible exact H | (rw [hy217]; exact H) | exact H
              have Ny217 := Aside0.mk hy217
              clear hy217
              by_cases c14 : y217.length < 17592186044416
              · rw [if_pos c14] at H
                have LMc14 := Aside0.mk c14
                clear c14
                obtain ⟨y220, hy220⟩ : ∃ y_ : List Int, y_ = (y217 ++ [0]) := ⟨_, rfl⟩
                replace H : ((plan_Right.f k y220).bind fun t223 => (if t223 = true then (some false) else (if 1 ≤ (y204.length : Int) then ((plan_Right.f k (y215.drop 1)).bind fun t228 => (if t228 = true then (some false) else (if 0 ≤ (wrap64 (Int.tmod (IntKind.u64.wrap (a1)) 8)) then (if (wrap64 (Int.tmod (IntKind.u64.wrap (a1)) 8)) < (y204.length : Int) then ((plan_Right.f k (y215.set ((wrap64 (Int.tmod (IntKind.u64.wrap (a1)) 8)) : Int).toNat a2)).bind fun t231 => (some (t231 == (a2 == (rd y215 (wrap64 (Int.tmod (IntKind.u64.wrap (a1)) 8))))))) else (none)) else (none)))) else (none)))) = some r := by first | (rw [hy220]; with_reducible exact H) | (have H2_ := (Option.bind_some _ _).symm.trans H; rw [hy220]; with_reducible exact H2_) | (have H2_ := (Option.bind_some _ _).symm.trans H; with_reducible exact H2_) | with_reducible exact H | (rw [hy220]; exact H) | exact H
                have Ny220 := Aside0.mk hy220
                clear hy220
                replace H := Option.bind_eq_some_iff.mp H
                obtain ⟨t223, A150, H⟩ := H
                replace H : (if t223 = true then (some false) else (if 1 ≤ (y204.length : Int) then ((plan_Right.f k (y215.drop 1)).bind fun t228 => (if t228 = true then (some false) else (if 0 ≤ (wrap64 (Int.tmod (IntKind.u64.wrap (a1)) 8)) then (if (wrap64 (Int.tmod (IntKind.u64.wrap (a1)) 8)) < (y204.length : Int) then ((plan_Right.f k (y215.set ((wrap64 (Int.tmod (IntKind.u64.wrap (a1)) 8)) : Int).toNat a2)).bind fun t231 => (some (t231 == (a2 == (rd y215 (wrap64 (Int.tmod (IntKind.u64.wrap (a1)) 8))))))) else (none)) else (none)))) else (none))) = some r := H
                have A15 := Aside0.mk A150
                clear A150
                by_cases c16 : t223 = true
                · subst c16
                  have H1 : (some false) = some r := by rw [if_pos rfl] at H; exact H
                  clear H
                  have H := H1
                  clear H1
                  obtain rfl := Option.some.inj H
                  go_enter Try.func6, Try.ntmps6
                  go_wp2_with (first | ((with_reducible refine gate_callee (f := 8) rfl ?_); refine goesL_ (some 10) rfl rfl Try.func8 (by kernel_rfl) rfl #[] rfl (by (try simp only [List.map_toArray, List.map_cons, List.map_nil]); first | done | rfl | (simp only [List.length_drop, List.length_take]; rfl)) ?_; (with_reducible refine (escritoirelaw05_lives.calls k  true _ A4.out).mono ?_); rintro e w17 ⟨rfl, hb⟩; refine ⟨_, rfl, ?_⟩; have n0_ := Aside0.mk (below_step (by repeat (first | (with_reducible first | exact HB.out | apply below_alloc | apply pw_below_drewN | apply below_drew1) | exact HB.out)) hb); clear HB; have HB := n0_; clear n0_; (try clear hb); (try clear hb2); (try clear hk); (try clear hi)) | ((with_reducible refine gate_callee (f := 16) rfl ?_); refine goesL_ (some 12) rfl rfl Try.func16 (by kernel_rfl) rfl #[] rfl (by (try simp only [List.map_toArray, List.map_cons, List.map_nil]); first | done | rfl | (simp only [List.length_drop, List.length_take]; rfl)) ?_; (with_reducible refine (plan_Size.calls k  t203 _ A6.out).mono ?_); rintro e w18 ⟨rfl, hb⟩; refine ⟨_, rfl, ?_⟩; have n0_ := Aside0.mk (below_step (by repeat (first | (with_reducible first | exact HB.out | apply below_alloc | apply pw_below_drewN | apply below_drew1) | exact HB.out)) hb); clear HB; have HB := n0_; clear n0_; (try clear hb); (try clear hb2); (try clear hk); (try clear hi)) | ((with_reducible refine gate_dst (N := 13) rfl ?_); (try (refine gate_guard (by rfl) ?_; dsimp only)); refine Kd.R_make (Kd.int .u64) _ 34 rfl (N := 13) rfl 33 _ _ rfl t203 rfl rfl Try.underlying33 (.int .u64 0) 8 info34 rfl (by decide) (by omega) 0 (ok := fun _ => True) (okp := fun _ => True) rfl (fun _ hk => hk) trivial (of_decide_eq_true (by first | (with_reducible assumption) | assumption)) (Nat.le_trans (Nat.mul_le_mul_right _ (of_decide_eq_true (by first | (with_reducible assumption) | assumption) : t203.toNat ≤ 35184372088832)) (by omega)) (Below.refl _ _) (Nat.le_refl _) ?_; intro v205 w19 ho20 hb hg_ hnew_; clear hg_ hnew_; (first | rw [← Ny204.out] at ho20 | (simp only [Int.reduceToNat] at ho20; rw [← Ny204.out] at ho20)); have n0_ := Aside0.mk (Kd.R_lower ho20 (below_size (by repeat (first | (with_reducible first | exact HB.out | apply below_alloc | apply pw_below_drewN | apply below_drew1) | exact HB.out)))); have n1_ := Aside0.mk (below_step (by repeat (first | (with_reducible first | exact HB.out | apply below_alloc | apply pw_below_drewN | apply below_drew1) | exact HB.out)) hb); clear HB; have HO206 := n0_; have HB := n1_; clear n0_ n1_; clear hb ho20; obtain ⟨Ao22, co22, eo22⟩ := Kd.R_slice HO206.out; subst eo22; have q21 : (8 : Int) ≤ ((y204.length : Int) : Int) := of_decide_eq_true (by first | (with_reducible assumption) | assumption); obtain ⟨i021, hi021, _, hsz21, _⟩ := info_parts info34; have hroom21 : y204.length ≤ co22 := (Kd.R_reads' HO206.out).2.1; have hC21 : Kd.C (Kd.int .u64) _ Ao22 y204.length y204 := (Kd.R_reads' HO206.out).2.2; have hcut21 := cut_from (P := Try.prog) 33 34 .i64 Try.underlying33 hi021 1 hsz21 Ao22 y204.length co22 8 (by omega) q21; have hr21 := Kd.C_drop (m := (8 : Int).toNat) (c := co22) hC21 (by omega) hroom21; obtain ⟨A21, hA21⟩ : ∃ A1, A1 = (if co22 = (8 : Int).toNat then Ao22 else (Ao22 : Option Addr).map (·.add ((8 : Int).toNat * 1))) := ⟨_, rfl⟩; obtain ⟨c21, hc21⟩ : ∃ c1, c1 = co22 - (8 : Int).toNat := ⟨_, rfl⟩; have hy21 : y207.length = y204.length - (8 : Int).toNat := (by rw [Ny207.out, List.length_drop] <;> omega); rw [show (y204).drop (8 : Int).toNat = y207 from Ny207.out.symm] at hr21; replace hr21 : Kd.C (Kd.int .u64) _ A21 y207.length y207 := (by rw [hA21]; exact hr21); rw [← hy21, ← hA21, ← hc21] at hcut21; have HR210 := Aside0.mk hr21; have HC210 := Aside0.mk (show y207.length ≤ c21 from by rw [hy21, hc21]; exact Nat.sub_le_sub_right hroom21 _); clear hr21 hC21 hroom21 hi021 hsz21 hc21; have KY21 := Aside0.mk hy21; have KA21 := Aside0.mk hA21; clear hy21 hA21; have KL21 := Aside0.mk (show 8 ≤ y204.length from by omega); replace q21 := eq_true q21) | ((with_reducible refine gate_builtin (b := .copy) (xs := #[.tmp 15, .tmp 16]) rfl ?_); (try (refine gate_guard (by rfl) ?_; dsimp only)); skip; refine kd_copy_at (enc := Value.int .u64) (h1 := fun _ => rfl) (w0 := w) w.heap.size rfl (.tmp 15) (.tmp 16) 33 33 34 rfl Try.underlying33 (by kernel_rfl) (.slice Ao22 y204.length co22) y204 l0 _ Ao22 _ _ _ y204.length co22 _ _ ((8 : Int).toNat) (fun _ => True) rfl rfl rfl ?cA ?cN ?cK ?cO ?cR ?cB ?cS ?_; (case cA => exact KA21.out); (case cN => have h_ := (Kd.R_reads' HO206.out).1; have a_ := KY21.out; omega); (case cK => have h_ := KL21.out; omega); (case cO => exact (by (with_reducible repeat (first | apply Kd.R_alloc | apply Kd.R_drewN | apply Kd.R_drew)); exact HO206.out)); (case cR => repeat (first | exact (Kd.C_below HR0.out HB.out) | (with_reducible refine Kd.C_alloc ?_ _) | (with_reducible refine Kd.C_drewN ?_ _) | (with_reducible refine Kd.C_drew ?_))); (case cB => exact (by repeat (first | (with_reducible first | exact HB.out | apply below_alloc | apply pw_below_drewN | apply below_drew1) | exact HB.out))); (case cS => exact ((below_size (by repeat (first | (with_reducible first | exact HB.out | apply below_alloc | apply pw_below_drewN | apply below_drew1) | exact HB.out))))); intro w23 ho hb hg; rw [show ((8 : Int).toNat) = 8 from rfl] at ho; rw [← Ny211.out] at ho; replace ho : Kd.R (Kd.int .u64) 34 w23 w.heap.size (fun _ => True) (.slice Ao22 y204.length co22) y211 := ho; have n0_ := Aside0.mk (ho); have n1_ := Aside0.mk (hb); clear HO206; clear HB; have HO206 := n0_; have HB := n1_; clear n0_ n1_; clear ho hb hg) | ((with_reducible refine gate_callee (f := 17) rfl ?_); refine goesL_ (some 19) rfl rfl Try.func17 (by kernel_rfl) rfl #[] rfl (by (try simp only [List.map_toArray, List.map_cons, List.map_nil]); first | done | rfl | (simp only [List.length_drop, List.length_take]; rfl)) ?_; (with_reducible refine (plan_Head.calls k  t212 _ A10.out).mono ?_); rintro e w25 ⟨v213, rfl, ho0, hb⟩; refine ⟨_, rfl, ?_⟩; have n0_ := Aside0.mk (Kd.R_elder' (by (with_reducible repeat (first | apply Kd.R_alloc | apply Kd.R_drewN | apply Kd.R_drew)); exact HO206.out) (Kd.R_base ho0) hb); have n1_ := Aside0.mk (Kd.R_lower (Kd.R_new' ho0 (Kd.R_lt (by (with_reducible repeat (first | apply Kd.R_alloc | apply Kd.R_drewN | apply Kd.R_drew)); exact HO206.out))) (below_size (by repeat (first | (with_reducible first | exact HB.out | apply below_alloc | apply pw_below_drewN | apply below_drew1) | exact HB.out)))); have n2_ := Aside0.mk (below_step (by repeat (first | (with_reducible first | exact HB.out | apply below_alloc | apply pw_below_drewN | apply below_drew1) | exact HB.out)) hb); clear HO206; clear HB; have HO206 := n0_; have HO214 := n1_; have HB := n2_; clear n0_ n1_ n2_; (try clear hb); (try clear hb2); (try clear hk); (try clear hi); (try clear ho0); have n_ := Aside0.mk (Kd.R_mono (ok' := (fun k_ => some k_ ≠ (v213 : Value).ownBlock)) HO206.out (fun k_ hk => hk.2)); clear HO206; have HO206 := n_; clear n_; obtain ⟨Ao28, co28, eo28⟩ := Kd.R_slice HO214.out; subst eo28) | ((with_reducible refine gate_builtin (b := .copy) (xs := #[.tmp 18, .tmp 19]) rfl ?_); (try (refine gate_guard (by rfl) ?_; dsimp only)); skip; refine kd_copy (enc := Value.int .u64) (h1 := fun _ => rfl) (w0 := w) w.heap.size rfl (.tmp 18) (.tmp 19) 33 33 34 rfl Try.underlying33 (by kernel_rfl) (.slice Ao22 y204.length co22) y211 t212 _ _ _ (fun k_ => some k_ ≠ (.slice Ao28 t212.length co28 : Value).ownBlock) rfl rfl ?cO ?cR ?cB ?cS ?_; (case cO => exact (by (with_reducible repeat (first | apply Kd.R_alloc | apply Kd.R_drewN | apply Kd.R_drew)); exact HO206.out)); (case cR => repeat (first | exact (Kd.R_reads' HO214.out).2.2 | (with_reducible refine Kd.C_alloc ?_ _) | (with_reducible refine Kd.C_drewN ?_ _) | (with_reducible refine Kd.C_drew ?_))); (case cB => exact (by repeat (first | (with_reducible first | exact HB.out | apply below_alloc | apply pw_below_drewN | apply below_drew1) | exact HB.out))); (case cS => exact ((below_size (by repeat (first | (with_reducible first | exact HB.out | apply below_alloc | apply pw_below_drewN | apply below_drew1) | exact HB.out))))); intro w26 ho hb hg; skip; rw [← Ny215.out] at ho; replace ho : Kd.R (Kd.int .u64) 34 w26 w.heap.size (fun k_ => some k_ ≠ (.slice Ao28 t212.length co28 : Value).ownBlock) (.slice Ao22 y204.length co22) y215 := ho; have n0_ := Aside0.mk (ho); have n1_ := Aside0.mk (Kd.R_after (v := (.slice Ao22 y204.length co22)) (v1 := (.slice Ao22 y204.length co22)) (ok := (fun _ => True)) (by (with_reducible repeat (first | apply Kd.R_alloc | apply Kd.R_drewN | apply Kd.R_drew)); exact HO214.out) hg (.inl rfl)); have n2_ := Aside0.mk (hb); clear HO206; clear HO214; clear HB; have HO206 := n0_; have HO214 := n1_; have HB := n2_; clear n0_ n1_ n2_; clear ho hb hg) | ((with_reducible refine gate_callee (f := 18) rfl ?_); refine goesL_ (some 22) rfl rfl Try.func18 (by kernel_rfl) rfl #[.slice Ao22 y215.length co22] rfl (by (try simp only [List.map_toArray, List.map_cons, List.map_nil]); first | done | (rw [show y215.length = y204.length from (Kd.R_reads' HO206.out).1.symm] <;> rfl) | rfl | (simp only [List.length_drop, List.length_take]; rfl)) ?_; (with_reducible refine (plan_Right.calls k _ _ y215 true _ ?side1 ?side2 A11.out).mono ?_); (case side1 => repeat (first | exact (Kd.R_reads' HO206.out).2.2 | (with_reducible refine Kd.C_alloc ?_ _) | (with_reducible refine Kd.C_drewN ?_ _) | (with_reducible refine Kd.C_drew ?_))); (case side2 => rw [show y215.length = y204.length from (Kd.R_reads' HO206.out).1.symm]; exact (Kd.R_reads' HO206.out).2.1); rintro e w29 ⟨rfl, hb⟩; refine ⟨_, rfl, ?_⟩; have n0_ := Aside0.mk (Kd.R_below (by (with_reducible repeat (first | apply Kd.R_alloc | apply Kd.R_drewN | apply Kd.R_drew)); exact HO206.out) hb); have n1_ := Aside0.mk (Kd.R_below (by (with_reducible repeat (first | apply Kd.R_alloc | apply Kd.R_drewN | apply Kd.R_drew)); exact HO214.out) hb); have n2_ := Aside0.mk (below_step (by repeat (first | (with_reducible first | exact HB.out | apply below_alloc | apply pw_below_drewN | apply below_drew1) | exact HB.out)) hb); clear HO206; clear HO214; clear HB; have HO206 := n0_; have HO214 := n1_; have HB := n2_; clear n0_ n1_ n2_; (try clear hb); (try clear hb2); (try clear hk); (try clear hi)) | ((with_reducible refine gate_builtin (b := .append) (xs := #[.const (.slice none 0 0), .tmp 25]) rfl ?_); (try (refine gate_guard (by rfl) ?_; dsimp only)); at_builtin; refine Kd.R_append_rows (Kd.int .u64) (w0 := w) w.heap.size rfl (.const (.slice none 0 0)) (.tmp 25) 33 34 (.int .u64 0) 8 rfl Try.underlying33 info34 rfl (by decide) (by omega) (.slice none 0 0) ([] : List Int) y215 _ _ _ (fun k_ => some k_ ≠ (.slice Ao22 y204.length co22 : Value).ownBlock ∧ some k_ ≠ (.slice Ao28 t212.length co28 : Value).ownBlock) (fun _ => False) rfl rfl ?aO ?aR (fun _ _ h => h) (fun _ h => h.elim) ?aF ?aB ?aS ?aL ?_; (case aR => rw [show y204.length = y215.length from (Kd.R_reads' HO206.out).1]; repeat (first | exact (Kd.R_reads' HO206.out).2.2 | (with_reducible refine Kd.C_alloc ?_ _) | (with_reducible refine Kd.C_drewN ?_ _) | (with_reducible refine Kd.C_drew ?_))); (case aB => exact (by repeat (first | (with_reducible first | exact HB.out | apply below_alloc | apply pw_below_drewN | apply below_drew1) | exact HB.out))); (case aF => exact (fun k_ hk => ⟨Kd.fresh' (Kd.R_lt (by (with_reducible repeat (first | apply Kd.R_alloc | apply Kd.R_drewN | apply Kd.R_drew)); exact HO206.out)) k_ hk, Kd.fresh' (Kd.R_lt (by (with_reducible repeat (first | apply Kd.R_alloc | apply Kd.R_drewN | apply Kd.R_drew)); exact HO214.out)) k_ hk⟩)); (case aO => exact ((Kd.R_nil _ _ _ _ (fun k_ => some k_ ≠ (.slice Ao22 y204.length co22 : Value).ownBlock ∧ some k_ ≠ (.slice Ao28 t212.length co28 : Value).ownBlock)))); (case aS => exact (below_size (by repeat (first | (with_reducible first | exact HB.out | apply below_alloc | apply pw_below_drewN | apply below_drew1) | exact HB.out)))); (case aL => have := LMc13.out; have hlx_ := (Kd.R_reads' HO206.out).1; omega); intro v218 w30 ho hb hg hat; rw [← Ny217.out] at ho; have n0_ := Aside0.mk (Kd.R_after (Kd.R_apart_nil (by (with_reducible repeat (first | apply Kd.R_alloc | apply Kd.R_drewN | apply Kd.R_drew)); exact HO206.out)) hg hat); have n1_ := Aside0.mk (Kd.R_after (Kd.R_apart_nil (by (with_reducible repeat (first | apply Kd.R_alloc | apply Kd.R_drewN | apply Kd.R_drew)); exact HO214.out)) hg hat); have n2_ := Aside0.mk (hb); have n3_ := Aside0.mk (ho); clear HO206; clear HO214; clear HB; have HO206 := n0_; have HO214 := n1_; have HB := n2_; have HO219 := n3_; clear n0_ n1_ n2_ n3_; clear ho hb hg hat) | ((with_reducible refine gate_builtin (b := .append) (xs := #[.tmp 26, .tmp 27]) rfl ?_); (try (refine gate_guard (by rfl) ?_; dsimp only)); at_builtin; refine Kd.R_append (Kd.int .u64) (w0 := w) w.heap.size rfl (.tmp 26) (.tmp 27) 33 34 (.int .u64 0) 8 rfl Try.underlying33 info34 rfl (by decide) (by omega) v218 y217 0 [.int .u64 0] (fun k_ => some k_ ≠ (.slice Ao22 y204.length co22 : Value).ownBlock ∧ some k_ ≠ (.slice Ao28 t212.length co28 : Value).ownBlock) (fun _ => False) rfl rfl ?aP (fun _ hk => hk.elim) ?aF ?aO ?aB ?aS ?aL ?_; (case aP => exact rfl); (case aB => exact (by repeat (first | (with_reducible first | exact HB.out | apply below_alloc | apply pw_below_drewN | apply below_drew1) | exact HB.out))); (case aF => exact (fun k_ hk => ⟨Kd.fresh' (Kd.R_lt (by (with_reducible repeat (first | apply Kd.R_alloc | apply Kd.R_drewN | apply Kd.R_drew)); exact HO206.out)) k_ hk, Kd.fresh' (Kd.R_lt (by (with_reducible repeat (first | apply Kd.R_alloc | apply Kd.R_drewN | apply Kd.R_drew)); exact HO214.out)) k_ hk⟩)); (case aO => exact (by (with_reducible repeat (first | apply Kd.R_alloc | apply Kd.R_drewN | apply Kd.R_drew)); exact HO219.out)); (case aS => exact (below_size (by repeat (first | (with_reducible first | exact HB.out | apply below_alloc | apply pw_below_drewN | apply below_drew1) | exact HB.out)))); (case aL => have := LMc14.out; omega); intro v221 w31 ho hb hg hat; rw [← Ny220.out] at ho; have n0_ := Aside0.mk (Kd.R_after (ok := (fun k_ => some k_ ≠ (.slice Ao28 t212.length co28 : Value).ownBlock)) (by (with_reducible repeat (first | apply Kd.R_alloc | apply Kd.R_drewN | apply Kd.R_drew)); exact HO206.out) hg hat); have n1_ := Aside0.mk (Kd.R_after (ok := (fun k_ => some k_ ≠ (.slice Ao22 y204.length co22 : Value).ownBlock)) (by (with_reducible repeat (first | apply Kd.R_alloc | apply Kd.R_drewN | apply Kd.R_drew)); exact Kd.R_mono HO214.out (fun _ hk => ⟨hk.1.2, hk.2⟩)) hg hat); have n2_ := Aside0.mk (hb); have n3_ := Aside0.mk (ho); clear HO206; clear HO214; clear HB; clear HO219; have HO206 := n0_; have HO214 := n1_; have HB := n2_; have HO222 := n3_; clear n0_ n1_ n2_ n3_; clear ho hb hg hat; obtain ⟨Ao32, co32, eo32⟩ := Kd.R_slice HO222.out; subst eo32) | (go_at_call 18; (with_reducible refine (plan_Right.calls k _ _ y220 true _ ?side1 ?side2 A15.out).mono ?_); (case side1 => repeat (first | exact (Kd.R_reads' HO222.out).2.2 | (with_reducible refine Kd.C_alloc ?_ _) | (with_reducible refine Kd.C_drewN ?_ _) | (with_reducible refine Kd.C_drew ?_))); (case side2 => exact (Kd.R_reads' HO222.out).2.1); rintro e w33 ⟨rfl, hb⟩; have n0_ := Aside0.mk (Kd.R_below (by (with_reducible repeat (first | apply Kd.R_alloc | apply Kd.R_drewN | apply Kd.R_drew)); exact HO206.out) hb); have n1_ := Aside0.mk (Kd.R_below (by (with_reducible repeat (first | apply Kd.R_alloc | apply Kd.R_drewN | apply Kd.R_drew)); exact HO214.out) hb); have n2_ := Aside0.mk (Kd.R_below (by (with_reducible repeat (first | apply Kd.R_alloc | apply Kd.R_drewN | apply Kd.R_drew)); exact HO222.out) hb); have n3_ := Aside0.mk (below_step (by repeat (first | (with_reducible first | exact HB.out | apply below_alloc | apply pw_below_drewN | apply below_drew1) | exact HB.out)) hb); clear HO206; clear HO214; clear HO222; clear HB; have HO206 := n0_; have HO214 := n1_; have HO222 := n2_; have HB := n3_; clear n0_ n1_ n2_ n3_; (try clear hb); (try clear hb2); (try clear hk); (try clear hi)))
                  go_ret
                  exact ⟨by first | rfl | (simp [errW_none, errW_some] <;> rfl) | (simp [*, errW_none, errW_some] <;> rfl), by repeat (first | (with_reducible first | exact HB.out | apply below_alloc | apply pw_below_drewN | apply below_drew1) | exact HB.out)⟩
                · replace c16 := Bool.eq_false_iff.mpr c16
                  subst c16
                  have H1 : (if 1 ≤ (y204.length : Int) then ((plan_Right.f k (y215.drop 1)).bind fun t228 => (if t228 = true then (some false) else (if 0 ≤ (wrap64 (Int.tmod (IntKind.u64.wrap (a1)) 8)) then (if (wrap64 (Int.tmod (IntKind.u64.wrap (a1)) 8)) < (y204.length : Int) then ((plan_Right.f k (y215.set ((wrap64 (Int.tmod (IntKind.u64.wrap (a1)) 8)) : Int).toNat a2)).bind fun t231 => (some (t231 == (a2 == (rd y215 (wrap64 (Int.tmod (IntKind.u64.wrap (a1)) 8))))))) else (none)) else (none)))) else (none)) = some r := by rw [if_neg (show ¬ (false = true) by decide)] at H; exact H
                  clear H
                  have H := H1
                  clear H1
                  by_cases c34 : 1 ≤ (y204.length : Int)
                  · rw [if_pos c34] at H
                    have c34b0 := eq_true c34
                    have c34b1 : decide (1 ≤ (y204.length : Int)) = true := decide_eq_true c34
                    clear c34
                    obtain ⟨y224, hy224⟩ : ∃ y_ : List Int, y_ = (y215.drop 1) := ⟨_, rfl⟩
                    replace H : ((plan_Right.f k y224).bind fun t228 => (if t228 = true then (some false) else (if 0 ≤ (wrap64 (Int.tmod (IntKind.u64.wrap (a1)) 8)) then (if (wrap64 (Int.tmod (IntKind.u64.wrap (a1)) 8)) < (y204.length : Int) then ((plan_Right.f k (y215.set ((wrap64 (Int.tmod (IntKind.u64.wrap (a1)) 8)) : Int).toNat a2)).bind fun t231 => (some (t231 == (a2 == (rd y215 (wrap64 (Int.tmod (IntKind.u64.wrap (a1)) 8))))))) else (none)) else (none)))) = some r := by first | (rw [hy224]; with_reducible exact H) | (have H2_ := (Option.bind_some _ _).symm.trans H; rw [hy224]; with_reducible exact H2_) | (have H2_ := (Option.bind_some _ _).symm.trans H; with_reducible exact H2_) | with_reducible exact H | (rw [hy224]; exact H) | exact H
                    have Ny224 := Aside0.mk hy224
                    clear hy224
                    replace H := Option.bind_eq_some_iff.mp H
                    obtain ⟨t228, A350, H⟩ := H
                    replace H : (if t228 = true then (some false) else (if 0 ≤ (wrap64 (Int.tmod (IntKind.u64.wrap (a1)) 8)) then (if (wrap64 (Int.tmod (IntKind.u64.wrap (a1)) 8)) < (y204.length : Int) then ((plan_Right.f k (y215.set ((wrap64 (Int.tmod (IntKind.u64.wrap (a1)) 8)) : Int).toNat a2)).bind fun t231 => (some (t231 == (a2 == (rd y215 (wrap64 (Int.tmod (IntKind.u64.wrap (a1)) 8))))))) else (none)) else (none))) = some r := H
                    have A35 := Aside0.mk A350
                    clear A350
                    by_cases c36 : t228 = true
                    · subst c36
                      have H1 : (some false) = some r := by rw [if_pos rfl] at H; exact H
                      clear H
                      have H := H1
                      clear H1
                      obtain rfl := Option.some.inj H
                      go_enter Try.func6, Try.ntmps6
                      go_wp2_with (first | ((with_reducible refine gate_callee (f := 8) rfl ?_); refine goesL_ (some 10) rfl rfl Try.func8 (by kernel_rfl) rfl #[] rfl (by (try simp only [List.map_toArray, List.map_cons, List.map_nil]); first | done | rfl | (simp only [List.length_drop, List.length_take]; rfl)) ?_; (with_reducible refine (escritoirelaw05_lives.calls k  true _ A4.out).mono ?_); rintro e w37 ⟨rfl, hb⟩; refine ⟨_, rfl, ?_⟩; have n0_ := Aside0.mk (below_step (by repeat (first | (with_reducible first | exact HB.out | apply below_alloc | apply pw_below_drewN | apply below_drew1) | exact HB.out)) hb); clear HB; have HB := n0_; clear n0_; (try clear hb); (try clear hb2); (try clear hk); (try clear hi)) | ((with_reducible refine gate_callee (f := 16) rfl ?_); refine goesL_ (some 12) rfl rfl Try.func16 (by kernel_rfl) rfl #[] rfl (by (try simp only [List.map_toArray, List.map_cons, List.map_nil]); first | done | rfl | (simp only [List.length_drop, List.length_take]; rfl)) ?_; (with_reducible refine (plan_Size.calls k  t203 _ A6.out).mono ?_); rintro e w38 ⟨rfl, hb⟩; refine ⟨_, rfl, ?_⟩; have n0_ := Aside0.mk (below_step (by repeat (first | (with_reducible first | exact HB.out | apply below_alloc | apply pw_below_drewN | apply below_drew1) | exact HB.out)) hb); clear HB; have HB := n0_; clear n0_; (try clear hb); (try clear hb2); (try clear hk); (try clear hi)) | ((with_reducible refine gate_dst (N := 13) rfl ?_); (try (refine gate_guard (by rfl) ?_; dsimp only)); refine Kd.R_make (Kd.int .u64) _ 34 rfl (N := 13) rfl 33 _ _ rfl t203 rfl rfl Try.underlying33 (.int .u64 0) 8 info34 rfl (by decide) (by omega) 0 (ok := fun _ => True) (okp := fun _ => True) rfl (fun _ hk => hk) trivial (of_decide_eq_true (by first | (with_reducible assumption) | assumption)) (Nat.le_trans (Nat.mul_le_mul_right _ (of_decide_eq_true (by first | (with_reducible assumption) | assumption) : t203.toNat ≤ 35184372088832)) (by omega)) (Below.refl _ _) (Nat.le_refl _) ?_; intro v205 w39 ho40 hb hg_ hnew_; clear hg_ hnew_; (first | rw [← Ny204.out] at ho40 | (simp only [Int.reduceToNat] at ho40; rw [← Ny204.out] at ho40)); have n0_ := Aside0.mk (Kd.R_lower ho40 (below_size (by repeat (first | (with_reducible first | exact HB.out | apply below_alloc | apply pw_below_drewN | apply below_drew1) | exact HB.out)))); have n1_ := Aside0.mk (below_step (by repeat (first | (with_reducible first | exact HB.out | apply below_alloc | apply pw_below_drewN | apply below_drew1) | exact HB.out)) hb); clear HB; have HO206 := n0_; have HB := n1_; clear n0_ n1_; clear hb ho40; obtain ⟨Ao42, co42, eo42⟩ := Kd.R_slice HO206.out; subst eo42; have q41 : (8 : Int) ≤ ((y204.length : Int) : Int) := of_decide_eq_true (by first | (with_reducible assumption) | assumption); obtain ⟨i041, hi041, _, hsz41, _⟩ := info_parts info34; have hroom41 : y204.length ≤ co42 := (Kd.R_reads' HO206.out).2.1; have hC41 : Kd.C (Kd.int .u64) _ Ao42 y204.length y204 := (Kd.R_reads' HO206.out).2.2; have hcut41 := cut_from (P := Try.prog) 33 34 .i64 Try.underlying33 hi041 1 hsz41 Ao42 y204.length co42 8 (by omega) q41; have hr41 := Kd.C_drop (m := (8 : Int).toNat) (c := co42) hC41 (by omega) hroom41; obtain ⟨A41, hA41⟩ : ∃ A1, A1 = (if co42 = (8 : Int).toNat then Ao42 else (Ao42 : Option Addr).map (·.add ((8 : Int).toNat * 1))) := ⟨_, rfl⟩; obtain ⟨c41, hc41⟩ : ∃ c1, c1 = co42 - (8 : Int).toNat := ⟨_, rfl⟩; have hy41 : y207.length = y204.length - (8 : Int).toNat := (by rw [Ny207.out, List.length_drop] <;> omega); rw [show (y204).drop (8 : Int).toNat = y207 from Ny207.out.symm] at hr41; replace hr41 : Kd.C (Kd.int .u64) _ A41 y207.length y207 := (by rw [hA41]; exact hr41); rw [← hy41, ← hA41, ← hc41] at hcut41; have HR210 := Aside0.mk hr41; have HC210 := Aside0.mk (show y207.length ≤ c41 from by rw [hy41, hc41]; exact Nat.sub_le_sub_right hroom41 _); clear hr41 hC41 hroom41 hi041 hsz41 hc41; have KY41 := Aside0.mk hy41; have KA41 := Aside0.mk hA41; clear hy41 hA41; have KL41 := Aside0.mk (show 8 ≤ y204.length from by omega); replace q41 := eq_true q41) | ((with_reducible refine gate_builtin (b := .copy) (xs := #[.tmp 15, .tmp 16]) rfl ?_); (try (refine gate_guard (by rfl) ?_; dsimp only)); skip; refine kd_copy_at (enc := Value.int .u64) (h1 := fun _ => rfl) (w0 := w) w.heap.size rfl (.tmp 15) (.tmp 16) 33 33 34 rfl Try.underlying33 (by kernel_rfl) (.slice Ao42 y204.length co42) y204 l0 _ Ao42 _ _ _ y204.length co42 _ _ ((8 : Int).toNat) (fun _ => True) rfl rfl rfl ?cA ?cN ?cK ?cO ?cR ?cB ?cS ?_; (case cA => exact KA41.out); (case cN => have h_ := (Kd.R_reads' HO206.out).1; have a_ := KY41.out; omega); (case cK => have h_ := KL41.out; omega); (case cO => exact (by (with_reducible repeat (first | apply Kd.R_alloc | apply Kd.R_drewN | apply Kd.R_drew)); exact HO206.out)); (case cR => repeat (first | exact (Kd.C_below HR0.out HB.out) | (with_reducible refine Kd.C_alloc ?_ _) | (with_reducible refine Kd.C_drewN ?_ _) | (with_reducible refine Kd.C_drew ?_))); (case cB => exact (by repeat (first | (with_reducible first | exact HB.out | apply below_alloc | apply pw_below_drewN | apply below_drew1) | exact HB.out))); (case cS => exact ((below_size (by repeat (first | (with_reducible first | exact HB.out | apply below_alloc | apply pw_below_drewN | apply below_drew1) | exact HB.out))))); intro w43 ho hb hg; rw [show ((8 : Int).toNat) = 8 from rfl] at ho; rw [← Ny211.out] at ho; replace ho : Kd.R (Kd.int .u64) 34 w43 w.heap.size (fun _ => True) (.slice Ao42 y204.length co42) y211 := ho; have n0_ := Aside0.mk (ho); have n1_ := Aside0.mk (hb); clear HO206; clear HB; have HO206 := n0_; have HB := n1_; clear n0_ n1_; clear ho hb hg) | ((with_reducible refine gate_callee (f := 17) rfl ?_); refine goesL_ (some 19) rfl rfl Try.func17 (by kernel_rfl) rfl #[] rfl (by (try simp only [List.map_toArray, List.map_cons, List.map_nil]); first | done | rfl | (simp only [List.length_drop, List.length_take]; rfl)) ?_; (with_reducible refine (plan_Head.calls k  t212 _ A10.out).mono ?_); rintro e w45 ⟨v213, rfl, ho0, hb⟩; refine ⟨_, rfl, ?_⟩; have n0_ := Aside0.mk (Kd.R_elder' (by (with_reducible repeat (first | apply Kd.R_alloc | apply Kd.R_drewN | apply Kd.R_drew)); exact HO206.out) (Kd.R_base ho0) hb); have n1_ := Aside0.mk (Kd.R_lower (Kd.R_new' ho0 (Kd.R_lt (by (with_reducible repeat (first | apply Kd.R_alloc | apply Kd.R_drewN | apply Kd.R_drew)); exact HO206.out))) (below_size (by repeat (first | (with_reducible first | exact HB.out | apply below_alloc | apply pw_below_drewN | apply below_drew1) | exact HB.out)))); have n2_ := Aside0.mk (below_step (by repeat (first | (with_reducible first | exact HB.out | apply below_alloc | apply pw_below_drewN | apply below_drew1) | exact HB.out)) hb); clear HO206; clear HB; have HO206 := n0_; have HO214 := n1_; have HB := n2_; clear n0_ n1_ n2_; (try clear hb); (try clear hb2); (try clear hk); (try clear hi); (try clear ho0); have n_ := Aside0.mk (Kd.R_mono (ok' := (fun k_ => some k_ ≠ (v213 : Value).ownBlock)) HO206.out (fun k_ hk => hk.2)); clear HO206; have HO206 := n_; clear n_; obtain ⟨Ao48, co48, eo48⟩ := Kd.R_slice HO214.out; subst eo48) | ((with_reducible refine gate_builtin (b := .copy) (xs := #[.tmp 18, .tmp 19]) rfl ?_); (try (refine gate_guard (by rfl) ?_; dsimp only)); skip; refine kd_copy (enc := Value.int .u64) (h1 := fun _ => rfl) (w0 := w) w.heap.size rfl (.tmp 18) (.tmp 19) 33 33 34 rfl Try.underlying33 (by kernel_rfl) (.slice Ao42 y204.length co42) y211 t212 _ _ _ (fun k_ => some k_ ≠ (.slice Ao48 t212.length co48 : Value).ownBlock) rfl rfl ?cO ?cR ?cB ?cS ?_; (case cO => exact (by (with_reducible repeat (first | apply Kd.R_alloc | apply Kd.R_drewN | apply Kd.R_drew)); exact HO206.out)); (case cR => repeat (first | exact (Kd.R_reads' HO214.out).2.2 | (with_reducible refine Kd.C_alloc ?_ _) | (with_reducible refine Kd.C_drewN ?_ _) | (with_reducible refine Kd.C_drew ?_))); (case cB => exact (by repeat (first | (with_reducible first | exact HB.out | apply below_alloc | apply pw_below_drewN | apply below_drew1) | exact HB.out))); (case cS => exact ((below_size (by repeat (first | (with_reducible first | exact HB.out | apply below_alloc | apply pw_below_drewN | apply below_drew1) | exact HB.out))))); intro w46 ho hb hg; skip; rw [← Ny215.out] at ho; replace ho : Kd.R (Kd.int .u64) 34 w46 w.heap.size (fun k_ => some k_ ≠ (.slice Ao48 t212.length co48 : Value).ownBlock) (.slice Ao42 y204.length co42) y215 := ho; have n0_ := Aside0.mk (ho); have n1_ := Aside0.mk (Kd.R_after (v := (.slice Ao42 y204.length co42)) (v1 := (.slice Ao42 y204.length co42)) (ok := (fun _ => True)) (by (with_reducible repeat (first | apply Kd.R_alloc | apply Kd.R_drewN | apply Kd.R_drew)); exact HO214.out) hg (.inl rfl)); have n2_ := Aside0.mk (hb); clear HO206; clear HO214; clear HB; have HO206 := n0_; have HO214 := n1_; have HB := n2_; clear n0_ n1_ n2_; clear ho hb hg) | ((with_reducible refine gate_callee (f := 18) rfl ?_); refine goesL_ (some 22) rfl rfl Try.func18 (by kernel_rfl) rfl #[.slice Ao42 y215.length co42] rfl (by (try simp only [List.map_toArray, List.map_cons, List.map_nil]); first | done | (rw [show y215.length = y204.length from (Kd.R_reads' HO206.out).1.symm] <;> rfl) | rfl | (simp only [List.length_drop, List.length_take]; rfl)) ?_; (with_reducible refine (plan_Right.calls k _ _ y215 true _ ?side1 ?side2 A11.out).mono ?_); (case side1 => repeat (first | exact (Kd.R_reads' HO206.out).2.2 | (with_reducible refine Kd.C_alloc ?_ _) | (with_reducible refine Kd.C_drewN ?_ _) | (with_reducible refine Kd.C_drew ?_))); (case side2 => rw [show y215.length = y204.length from (Kd.R_reads' HO206.out).1.symm]; exact (Kd.R_reads' HO206.out).2.1); rintro e w49 ⟨rfl, hb⟩; refine ⟨_, rfl, ?_⟩; have n0_ := Aside0.mk (Kd.R_below (by (with_reducible repeat (first | apply Kd.R_alloc | apply Kd.R_drewN | apply Kd.R_drew)); exact HO206.out) hb); have n1_ := Aside0.mk (Kd.R_below (by (with_reducible repeat (first | apply Kd.R_alloc | apply Kd.R_drewN | apply Kd.R_drew)); exact HO214.out) hb); have n2_ := Aside0.mk (below_step (by repeat (first | (with_reducible first | exact HB.out | apply below_alloc | apply pw_below_drewN | apply below_drew1) | exact HB.out)) hb); clear HO206; clear HO214; clear HB; have HO206 := n0_; have HO214 := n1_; have HB := n2_; clear n0_ n1_ n2_; (try clear hb); (try clear hb2); (try clear hk); (try clear hi)) | ((with_reducible refine gate_builtin (b := .append) (xs := #[.const (.slice none 0 0), .tmp 25]) rfl ?_); (try (refine gate_guard (by rfl) ?_; dsimp only)); at_builtin; refine Kd.R_append_rows (Kd.int .u64) (w0 := w) w.heap.size rfl (.const (.slice none 0 0)) (.tmp 25) 33 34 (.int .u64 0) 8 rfl Try.underlying33 info34 rfl (by decide) (by omega) (.slice none 0 0) ([] : List Int) y215 _ _ _ (fun k_ => some k_ ≠ (.slice Ao42 y204.length co42 : Value).ownBlock ∧ some k_ ≠ (.slice Ao48 t212.length co48 : Value).ownBlock) (fun _ => False) rfl rfl ?aO ?aR (fun _ _ h => h) (fun _ h => h.elim) ?aF ?aB ?aS ?aL ?_; (case aR => rw [show y204.length = y215.length from (Kd.R_reads' HO206.out).1]; repeat (first | exact (Kd.R_reads' HO206.out).2.2 | (with_reducible refine Kd.C_alloc ?_ _) | (with_reducible refine Kd.C_drewN ?_ _) | (with_reducible refine Kd.C_drew ?_))); (case aB => exact (by repeat (first | (with_reducible first | exact HB.out | apply below_alloc | apply pw_below_drewN | apply below_drew1) | exact HB.out))); (case aF => exact (fun k_ hk => ⟨Kd.fresh' (Kd.R_lt (by (with_reducible repeat (first | apply Kd.R_alloc | apply Kd.R_drewN | apply Kd.R_drew)); exact HO206.out)) k_ hk, Kd.fresh' (Kd.R_lt (by (with_reducible repeat (first | apply Kd.R_alloc | apply Kd.R_drewN | apply Kd.R_drew)); exact HO214.out)) k_ hk⟩)); (case aO => exact ((Kd.R_nil _ _ _ _ (fun k_ => some k_ ≠ (.slice Ao42 y204.length co42 : Value).ownBlock ∧ some k_ ≠ (.slice Ao48 t212.length co48 : Value).ownBlock)))); (case aS => exact (below_size (by repeat (first | (with_reducible first | exact HB.out | apply below_alloc | apply pw_below_drewN | apply below_drew1) | exact HB.out)))); (case aL => have := LMc13.out; have hlx_ := (Kd.R_reads' HO206.out).1; omega); intro v218 w50 ho hb hg hat; rw [← Ny217.out] at ho; have n0_ := Aside0.mk (Kd.R_after (Kd.R_apart_nil (by (with_reducible repeat (first | apply Kd.R_alloc | apply Kd.R_drewN | apply Kd.R_drew)); exact HO206.out)) hg hat); have n1_ := Aside0.mk (Kd.R_after (Kd.R_apart_nil (by (with_reducible repeat (first | apply Kd.R_alloc | apply Kd.R_drewN | apply Kd.R_drew)); exact HO214.out)) hg hat); have n2_ := Aside0.mk (hb); have n3_ := Aside0.mk (ho); clear HO206; clear HO214; clear HB; have HO206 := n0_; have HO214 := n1_; have HB := n2_; have HO219 := n3_; clear n0_ n1_ n2_ n3_; clear ho hb hg hat) | ((with_reducible refine gate_builtin (b := .append) (xs := #[.tmp 26, .tmp 27]) rfl ?_); (try (refine gate_guard (by rfl) ?_; dsimp only)); at_builtin; refine Kd.R_append (Kd.int .u64) (w0 := w) w.heap.size rfl (.tmp 26) (.tmp 27) 33 34 (.int .u64 0) 8 rfl Try.underlying33 info34 rfl (by decide) (by omega) v218 y217 0 [.int .u64 0] (fun k_ => some k_ ≠ (.slice Ao42 y204.length co42 : Value).ownBlock ∧ some k_ ≠ (.slice Ao48 t212.length co48 : Value).ownBlock) (fun _ => False) rfl rfl ?aP (fun _ hk => hk.elim) ?aF ?aO ?aB ?aS ?aL ?_; (case aP => exact rfl); (case aB => exact (by repeat (first | (with_reducible first | exact HB.out | apply below_alloc | apply pw_below_drewN | apply below_drew1) | exact HB.out))); (case aF => exact (fun k_ hk => ⟨Kd.fresh' (Kd.R_lt (by (with_reducible repeat (first | apply Kd.R_alloc | apply Kd.R_drewN | apply Kd.R_drew)); exact HO206.out)) k_ hk, Kd.fresh' (Kd.R_lt (by (with_reducible repeat (first | apply Kd.R_alloc | apply Kd.R_drewN | apply Kd.R_drew)); exact HO214.out)) k_ hk⟩)); (case aO => exact (by (with_reducible repeat (first | apply Kd.R_alloc | apply Kd.R_drewN | apply Kd.R_drew)); exact HO219.out)); (case aS => exact (below_size (by repeat (first | (with_reducible first | exact HB.out | apply below_alloc | apply pw_below_drewN | apply below_drew1) | exact HB.out)))); (case aL => have := LMc14.out; omega); intro v221 w51 ho hb hg hat; rw [← Ny220.out] at ho; have n0_ := Aside0.mk (Kd.R_after (ok := (fun k_ => some k_ ≠ (.slice Ao48 t212.length co48 : Value).ownBlock)) (by (with_reducible repeat (first | apply Kd.R_alloc | apply Kd.R_drewN | apply Kd.R_drew)); exact HO206.out) hg hat); have n1_ := Aside0.mk (Kd.R_after (ok := (fun k_ => some k_ ≠ (.slice Ao42 y204.length co42 : Value).ownBlock)) (by (with_reducible repeat (first | apply Kd.R_alloc | apply Kd.R_drewN | apply Kd.R_drew)); exact Kd.R_mono HO214.out (fun _ hk => ⟨hk.1.2, hk.2⟩)) hg hat); have n2_ := Aside0.mk (hb); have n3_ := Aside0.mk (ho); clear HO206; clear HO214; clear HB; clear HO219; have HO206 := n0_; have HO214 := n1_; have HB := n2_; have HO222 := n3_; clear n0_ n1_ n2_ n3_; clear ho hb hg hat; obtain ⟨Ao52, co52, eo52⟩ := Kd.R_slice HO222.out; subst eo52) | (go_at_call 18; (with_reducible refine (plan_Right.calls k _ _ y220 false _ ?side1 ?side2 A15.out).mono ?_); (case side1 => repeat (first | exact (Kd.R_reads' HO222.out).2.2 | (with_reducible refine Kd.C_alloc ?_ _) | (with_reducible refine Kd.C_drewN ?_ _) | (with_reducible refine Kd.C_drew ?_))); (case side2 => exact (Kd.R_reads' HO222.out).2.1); rintro e w53 ⟨rfl, hb⟩; have n0_ := Aside0.mk (Kd.R_below (by (with_reducible repeat (first | apply Kd.R_alloc | apply Kd.R_drewN | apply Kd.R_drew)); exact HO206.out) hb); have n1_ := Aside0.mk (Kd.R_below (by (with_reducible repeat (first | apply Kd.R_alloc | apply Kd.R_drewN | apply Kd.R_drew)); exact HO214.out) hb); have n2_ := Aside0.mk (Kd.R_below (by (with_reducible repeat (first | apply Kd.R_alloc | apply Kd.R_drewN | apply Kd.R_drew)); exact HO222.out) hb); have n3_ := Aside0.mk (below_step (by repeat (first | (with_reducible first | exact HB.out | apply below_alloc | apply pw_below_drewN | apply below_drew1) | exact HB.out)) hb); clear HO206; clear HO214; clear HO222; clear HB; have HO206 := n0_; have HO214 := n1_; have HO222 := n2_; have HB := n3_; clear n0_ n1_ n2_ n3_; (try clear hb); (try clear hb2); (try clear hk); (try clear hi); have hlx54 := (Kd.R_reads' HO206.out).1; have q54 : (1 : Int) ≤ ((y204.length : Int) : Int) := of_decide_eq_true (by first | (with_reducible assumption) | assumption); obtain ⟨i054, hi054, _, hsz54, _⟩ := info_parts info34; have hroom54 : y204.length ≤ co42 := (Kd.R_reads' HO206.out).2.1; have hroomc54 : y215.length ≤ co42 := (by rw [← hlx54]; exact hroom54); have hC54 : Kd.C (Kd.int .u64) _ Ao42 y215.length y215 := (Kd.R_reads' HO206.out).2.2; have hcut54 := cut_from (P := Try.prog) 33 34 .i64 Try.underlying33 hi054 1 hsz54 Ao42 y204.length co42 1 (by omega) (by have h_ := hlx54; have g_ := q54; omega); have hr54 := Kd.C_drop (m := (1 : Int).toNat) (c := co42) hC54 (by omega) hroomc54; obtain ⟨A54, hA54⟩ : ∃ A1, A1 = (if co42 = (1 : Int).toNat then Ao42 else (Ao42 : Option Addr).map (·.add ((1 : Int).toNat * 1))) := ⟨_, rfl⟩; obtain ⟨c54, hc54⟩ : ∃ c1, c1 = co42 - (1 : Int).toNat := ⟨_, rfl⟩; have hy54 : y224.length = y204.length - (1 : Int).toNat := (by rw [Ny224.out, List.length_drop] <;> omega); rw [show (y215).drop (1 : Int).toNat = y224 from Ny224.out.symm] at hr54; replace hr54 : Kd.C (Kd.int .u64) _ A54 y224.length y224 := (by rw [hA54]; exact hr54); rw [← hy54, ← hA54, ← hc54] at hcut54; have HR227 := Aside0.mk hr54; have HC227 := Aside0.mk (show y224.length ≤ c54 from by rw [hy54, hc54]; exact Nat.sub_le_sub_right hroom54 _); clear hr54 hC54 hroom54 hi054 hsz54 hc54 hroomc54; have KY54 := Aside0.mk hy54; have KA54 := Aside0.mk hA54; clear hy54 hA54; have KE54 := Aside0.mk hlx54; have KL54 := Aside0.mk (show 1 ≤ y215.length from by omega); clear hlx54; replace q54 := eq_true q54) | (go_at_call 18; (with_reducible refine (plan_Right.calls k _ _ y224 true _ ?side1 ?side2 A35.out).mono ?_); (case side1 => repeat (first | exact (by repeat (first | (with_reducible exact HR227.out) | (with_reducible refine Kd.C_alloc ?_ _) | (with_reducible refine Kd.C_drewN ?_ _) | (with_reducible refine Kd.C_drew ?_) | exact HR227.out)) | (with_reducible refine Kd.C_alloc ?_ _) | (with_reducible refine Kd.C_drewN ?_ _) | (with_reducible refine Kd.C_drew ?_))); (case side2 => exact HC227.out); rintro e w55 ⟨rfl, hb⟩; have n0_ := Aside0.mk (Kd.R_below (by (with_reducible repeat (first | apply Kd.R_alloc | apply Kd.R_drewN | apply Kd.R_drew)); exact HO206.out) hb); have n1_ := Aside0.mk (Kd.R_below (by (with_reducible repeat (first | apply Kd.R_alloc | apply Kd.R_drewN | apply Kd.R_drew)); exact HO214.out) hb); have n2_ := Aside0.mk (Kd.R_below (by (with_reducible repeat (first | apply Kd.R_alloc | apply Kd.R_drewN | apply Kd.R_drew)); exact HO222.out) hb); have n3_ := Aside0.mk (Kd.C_below (by repeat (first | (with_reducible exact HR227.out) | (with_reducible refine Kd.C_alloc ?_ _) | (with_reducible refine Kd.C_drewN ?_ _) | (with_reducible refine Kd.C_drew ?_) | exact HR227.out)) hb); have n4_ := Aside0.mk (below_step (by repeat (first | (with_reducible first | exact HB.out | apply below_alloc | apply pw_below_drewN | apply below_drew1) | exact HB.out)) hb); clear HO206; clear HO214; clear HO222; clear HR227; clear HB; have HO206 := n0_; have HO214 := n1_; have HO222 := n2_; have HR227 := n3_; have HB := n4_; clear n0_ n1_ n2_ n3_ n4_; (try clear hb); (try clear hb2); (try clear hk); (try clear hi)))
                      go_ret
                      exact ⟨by first | rfl | (simp [errW_none, errW_some] <;> rfl) | (simp [*, errW_none, errW_some] <;> rfl), by repeat (first | (with_reducible first | exact HB.out | apply below_alloc | apply pw_below_drewN | apply below_drew1) | exact HB.out)⟩
                    · replace c36 := Bool.eq_false_iff.mpr c36
                      subst c36
                      have H1 : (if 0 ≤ (wrap64 (Int.tmod (IntKind.u64.wrap (a1)) 8)) then (if (wrap64 (Int.tmod (IntKind.u64.wrap (a1)) 8)) < (y204.length : Int) then ((plan_Right.f k (y215.set ((wrap64 (Int.tmod (IntKind.u64.wrap (a1)) 8)) : Int).toNat a2)).bind fun t231 => (some (t231 == (a2 == (rd y215 (wrap64 (Int.tmod (IntKind.u64.wrap (a1)) 8))))))) else (none)) else (none)) = some r := by rw [if_neg (show ¬ (false = true) by decide)] at H; exact H
                      clear H
                      have H := H1
                      clear H1
                      obtain ⟨ji56, hji56⟩ : ∃ j_ : Int, (wrap64 (Int.tmod (IntKind.u64.wrap (a1)) 8)) = j_ := ⟨_, rfl⟩
                      replace H : (if 0 ≤ (ji56) then (if (ji56) < (y204.length : Int) then ((plan_Right.f k (y215.set ((ji56) : Int).toNat a2)).bind fun t231 => (some (t231 == (a2 == (rd y215 (ji56)))))) else (none)) else (none)) = some r := by first | (rw [hji56] at H; exact H) | (simp only [hji56] at H ⊢; exact H)
                      (try rw [hji56] at A4)
                      (try rw [hji56] at A6)
                      (try rw [hji56] at A10)
                      (try rw [hji56] at A11)
                      (try rw [hji56] at A15)
                      (try rw [hji56] at A35)
                      have hji56w : (IntKind.i64.wrap (Int.tmod (IntKind.u64.wrap (a1)) 8)) = ji56 := (i64_w _).trans hji56
                      by_cases c57 : 0 ≤ (ji56)
                      · rw [if_pos c57] at H
                        have c57b0 : decide (0 ≤ (ji56)) = true := decide_eq_true c57
                        clear c57
                        by_cases c58 : (ji56) < (y204.length : Int)
                        · rw [if_pos c58] at H
                          have c58b0 : decide ((ji56) < (y204.length : Int)) = true := decide_eq_true c58
                          clear c58
                          obtain ⟨y230, hy230⟩ : ∃ y_ : List Int, y_ = (y215.set ((ji56) : Int).toNat a2) := ⟨_, rfl⟩
                          replace H : ((plan_Right.f k y230).bind fun t231 => (some (t231 == (a2 == (rd y215 (ji56)))))) = some r := by first | (rw [hy230]; with_reducible exact H) | (have H2_ := (Option.bind_some _ _).symm.trans H; rw [hy230]; with_reducible exact H2_) | (have H2_ := (Option.bind_some _ _).symm.trans H; with_reducible exact H2_) | with_reducible exact H | (rw [hy230]; exact H) | exact H
                          have Ny230 := Aside0.mk hy230
                          clear hy230
                          replace H := Option.bind_eq_some_iff.mp H
                          obtain ⟨t231, A600, H⟩ := H
                          replace H : (some (t231 == (a2 == (rd y215 (ji56))))) = some r := H
                          have A60 := Aside0.mk A600
                          clear A600
                          obtain rfl := Option.some.inj H
                          go_enter Try.func6, Try.ntmps6
                          go_wp2_with (first | ((with_reducible refine gate_callee (f := 8) rfl ?_); refine goesL_ (some 10) rfl rfl Try.func8 (by kernel_rfl) rfl #[] rfl (by (try simp only [List.map_toArray, List.map_cons, List.map_nil]); first | done | rfl | (simp only [List.length_drop, List.length_take]; rfl)) ?_; (with_reducible refine (escritoirelaw05_lives.calls k  true _ A4.out).mono ?_); rintro e w61 ⟨rfl, hb⟩; refine ⟨_, rfl, ?_⟩; have n0_ := Aside0.mk (below_step (by repeat (first | (with_reducible first | exact HB.out | apply below_alloc | apply pw_below_drewN | apply below_drew1) | exact HB.out)) hb); clear HB; have HB := n0_; clear n0_; (try clear hb); (try clear hb2); (try clear hk); (try clear hi)) | ((with_reducible refine gate_callee (f := 16) rfl ?_); refine goesL_ (some 12) rfl rfl Try.func16 (by kernel_rfl) rfl #[] rfl (by (try simp only [List.map_toArray, List.map_cons, List.map_nil]); first | done | rfl | (simp only [List.length_drop, List.length_take]; rfl)) ?_; (with_reducible refine (plan_Size.calls k  t203 _ A6.out).mono ?_); rintro e w62 ⟨rfl, hb⟩; refine ⟨_, rfl, ?_⟩; have n0_ := Aside0.mk (below_step (by repeat (first | (with_reducible first | exact HB.out | apply below_alloc | apply pw_below_drewN | apply below_drew1) | exact HB.out)) hb); clear HB; have HB := n0_; clear n0_; (try clear hb); (try clear hb2); (try clear hk); (try clear hi)) | ((with_reducible refine gate_dst (N := 13) rfl ?_); (try (refine gate_guard (by rfl) ?_; dsimp only)); refine Kd.R_make (Kd.int .u64) _ 34 rfl (N := 13) rfl 33 _ _ rfl t203 rfl rfl Try.underlying33 (.int .u64 0) 8 info34 rfl (by decide) (by omega) 0 (ok := fun _ => True) (okp := fun _ => True) rfl (fun _ hk => hk) trivial (of_decide_eq_true (by first | (with_reducible assumption) | assumption)) (Nat.le_trans (Nat.mul_le_mul_right _ (of_decide_eq_true (by first | (with_reducible assumption) | assumption) : t203.toNat ≤ 35184372088832)) (by omega)) (Below.refl _ _) (Nat.le_refl _) ?_; intro v205 w63 ho64 hb hg_ hnew_; clear hg_ hnew_; (first | rw [← Ny204.out] at ho64 | (simp only [Int.reduceToNat] at ho64; rw [← Ny204.out] at ho64)); have n0_ := Aside0.mk (Kd.R_lower ho64 (below_size (by repeat (first | (with_reducible first | exact HB.out | apply below_alloc | apply pw_below_drewN | apply below_drew1) | exact HB.out)))); have n1_ := Aside0.mk (below_step (by repeat (first | (with_reducible first | exact HB.out | apply below_alloc | apply pw_below_drewN | apply below_drew1) | exact HB.out)) hb); clear HB; have HO206 := n0_; have HB := n1_; clear n0_ n1_; clear hb ho64; obtain ⟨Ao66, co66, eo66⟩ := Kd.R_slice HO206.out; subst eo66; have q65 : (8 : Int) ≤ ((y204.length : Int) : Int) := of_decide_eq_true (by first | (with_reducible assumption) | assumption); obtain ⟨i065, hi065, _, hsz65, _⟩ := info_parts info34; have hroom65 : y204.length ≤ co66 := (Kd.R_reads' HO206.out).2.1; have hC65 : Kd.C (Kd.int .u64) _ Ao66 y204.length y204 := (Kd.R_reads' HO206.out).2.2; have hcut65 := cut_from (P := Try.prog) 33 34 .i64 Try.underlying33 hi065 1 hsz65 Ao66 y204.length co66 8 (by omega) q65; have hr65 := Kd.C_drop (m := (8 : Int).toNat) (c := co66) hC65 (by omega) hroom65; obtain ⟨A65, hA65⟩ : ∃ A1, A1 = (if co66 = (8 : Int).toNat then Ao66 else (Ao66 : Option Addr).map (·.add ((8 : Int).toNat * 1))) := ⟨_, rfl⟩; obtain ⟨c65, hc65⟩ : ∃ c1, c1 = co66 - (8 : Int).toNat := ⟨_, rfl⟩; have hy65 : y207.length = y204.length - (8 : Int).toNat := (by rw [Ny207.out, List.length_drop] <;> omega); rw [show (y204).drop (8 : Int).toNat = y207 from Ny207.out.symm] at hr65; replace hr65 : Kd.C (Kd.int .u64) _ A65 y207.length y207 := (by rw [hA65]; exact hr65); rw [← hy65, ← hA65, ← hc65] at hcut65; have HR210 := Aside0.mk hr65; have HC210 := Aside0.mk (show y207.length ≤ c65 from by rw [hy65, hc65]; exact Nat.sub_le_sub_right hroom65 _); clear hr65 hC65 hroom65 hi065 hsz65 hc65; have KY65 := Aside0.mk hy65; have KA65 := Aside0.mk hA65; clear hy65 hA65; have KL65 := Aside0.mk (show 8 ≤ y204.length from by omega); replace q65 := eq_true q65) | ((with_reducible refine gate_builtin (b := .copy) (xs := #[.tmp 15, .tmp 16]) rfl ?_); (try (refine gate_guard (by rfl) ?_; dsimp only)); skip; refine kd_copy_at (enc := Value.int .u64) (h1 := fun _ => rfl) (w0 := w) w.heap.size rfl (.tmp 15) (.tmp 16) 33 33 34 rfl Try.underlying33 (by kernel_rfl) (.slice Ao66 y204.length co66) y204 l0 _ Ao66 _ _ _ y204.length co66 _ _ ((8 : Int).toNat) (fun _ => True) rfl rfl rfl ?cA ?cN ?cK ?cO ?cR ?cB ?cS ?_; (case cA => exact KA65.out); (case cN => have h_ := (Kd.R_reads' HO206.out).1; have a_ := KY65.out; omega); (case cK => have h_ := KL65.out; omega); (case cO => exact (by (with_reducible repeat (first | apply Kd.R_alloc | apply Kd.R_drewN | apply Kd.R_drew)); exact HO206.out)); (case cR => repeat (first | exact (Kd.C_below HR0.out HB.out) | (with_reducible refine Kd.C_alloc ?_ _) | (with_reducible refine Kd.C_drewN ?_ _) | (with_reducible refine Kd.C_drew ?_))); (case cB => exact (by repeat (first | (with_reducible first | exact HB.out | apply below_alloc | apply pw_below_drewN | apply below_drew1) | exact HB.out))); (case cS => exact ((below_size (by repeat (first | (with_reducible first | exact HB.out | apply below_alloc | apply pw_below_drewN | apply below_drew1) | exact HB.out))))); intro w67 ho hb hg; rw [show ((8 : Int).toNat) = 8 from rfl] at ho; rw [← Ny211.out] at ho; replace ho : Kd.R (Kd.int .u64) 34 w67 w.heap.size (fun _ => True) (.slice Ao66 y204.length co66) y211 := ho; have n0_ := Aside0.mk (ho); have n1_ := Aside0.mk (hb); clear HO206; clear HB; have HO206 := n0_; have HB := n1_; clear n0_ n1_; clear ho hb hg) | ((with_reducible refine gate_callee (f := 17) rfl ?_); refine goesL_ (some 19) rfl rfl Try.func17 (by kernel_rfl) rfl #[] rfl (by (try simp only [List.map_toArray, List.map_cons, List.map_nil]); first | done | rfl | (simp only [List.length_drop, List.length_take]; rfl)) ?_; (with_reducible refine (plan_Head.calls k  t212 _ A10.out).mono ?_); rintro e w69 ⟨v213, rfl, ho0, hb⟩; refine ⟨_, rfl, ?_⟩; have n0_ := Aside0.mk (Kd.R_elder' (by (with_reducible repeat (first | apply Kd.R_alloc | apply Kd.R_drewN | apply Kd.R_drew)); exact HO206.out) (Kd.R_base ho0) hb); have n1_ := Aside0.mk (Kd.R_lower (Kd.R_new' ho0 (Kd.R_lt (by (with_reducible repeat (first | apply Kd.R_alloc | apply Kd.R_drewN | apply Kd.R_drew)); exact HO206.out))) (below_size (by repeat (first | (with_reducible first | exact HB.out | apply below_alloc | apply pw_below_drewN | apply below_drew1) | exact HB.out)))); have n2_ := Aside0.mk (below_step (by repeat (first | (with_reducible first | exact HB.out | apply below_alloc | apply pw_below_drewN | apply below_drew1) | exact HB.out)) hb); clear HO206; clear HB; have HO206 := n0_; have HO214 := n1_; have HB := n2_; clear n0_ n1_ n2_; (try clear hb); (try clear hb2); (try clear hk); (try clear hi); (try clear ho0); have n_ := Aside0.mk (Kd.R_mono (ok' := (fun k_ => some k_ ≠ (v213 : Value).ownBlock)) HO206.out (fun k_ hk => hk.2)); clear HO206; have HO206 := n_; clear n_; obtain ⟨Ao72, co72, eo72⟩ := Kd.R_slice HO214.out; subst eo72) | ((with_reducible refine gate_builtin (b := .copy) (xs := #[.tmp 18, .tmp 19]) rfl ?_); (try (refine gate_guard (by rfl) ?_; dsimp only)); skip; refine kd_copy (enc := Value.int .u64) (h1 := fun _ => rfl) (w0 := w) w.heap.size rfl (.tmp 18) (.tmp 19) 33 33 34 rfl Try.underlying33 (by kernel_rfl) (.slice Ao66 y204.length co66) y211 t212 _ _ _ (fun k_ => some k_ ≠ (.slice Ao72 t212.length co72 : Value).ownBlock) rfl rfl ?cO ?cR ?cB ?cS ?_; (case cO => exact (by (with_reducible repeat (first | apply Kd.R_alloc | apply Kd.R_drewN | apply Kd.R_drew)); exact HO206.out)); (case cR => repeat (first | exact (Kd.R_reads' HO214.out).2.2 | (with_reducible refine Kd.C_alloc ?_ _) | (with_reducible refine Kd.C_drewN ?_ _) | (with_reducible refine Kd.C_drew ?_))); (case cB => exact (by repeat (first | (with_reducible first | exact HB.out | apply below_alloc | apply pw_below_drewN | apply below_drew1) | exact HB.out))); (case cS => exact ((below_size (by repeat (first | (with_reducible first | exact HB.out | apply below_alloc | apply pw_below_drewN | apply below_drew1) | exact HB.out))))); intro w70 ho hb hg; skip; rw [← Ny215.out] at ho; replace ho : Kd.R (Kd.int .u64) 34 w70 w.heap.size (fun k_ => some k_ ≠ (.slice Ao72 t212.length co72 : Value).ownBlock) (.slice Ao66 y204.length co66) y215 := ho; have n0_ := Aside0.mk (ho); have n1_ := Aside0.mk (Kd.R_after (v := (.slice Ao66 y204.length co66)) (v1 := (.slice Ao66 y204.length co66)) (ok := (fun _ => True)) (by (with_reducible repeat (first | apply Kd.R_alloc | apply Kd.R_drewN | apply Kd.R_drew)); exact HO214.out) hg (.inl rfl)); have n2_ := Aside0.mk (hb); clear HO206; clear HO214; clear HB; have HO206 := n0_; have HO214 := n1_; have HB := n2_; clear n0_ n1_ n2_; clear ho hb hg) | ((with_reducible refine gate_callee (f := 18) rfl ?_); refine goesL_ (some 22) rfl rfl Try.func18 (by kernel_rfl) rfl #[.slice Ao66 y215.length co66] rfl (by (try simp only [List.map_toArray, List.map_cons, List.map_nil]); first | done | (rw [show y215.length = y204.length from (Kd.R_reads' HO206.out).1.symm] <;> rfl) | rfl | (simp only [List.length_drop, List.length_take]; rfl)) ?_; (with_reducible refine (plan_Right.calls k _ _ y215 true _ ?side1 ?side2 A11.out).mono ?_); (case side1 => repeat (first | exact (Kd.R_reads' HO206.out).2.2 | (with_reducible refine Kd.C_alloc ?_ _) | (with_reducible refine Kd.C_drewN ?_ _) | (with_reducible refine Kd.C_drew ?_))); (case side2 => rw [show y215.length = y204.length from (Kd.R_reads' HO206.out).1.symm]; exact (Kd.R_reads' HO206.out).2.1); rintro e w73 ⟨rfl, hb⟩; refine ⟨_, rfl, ?_⟩; have n0_ := Aside0.mk (Kd.R_below (by (with_reducible repeat (first | apply Kd.R_alloc | apply Kd.R_drewN | apply Kd.R_drew)); exact HO206.out) hb); have n1_ := Aside0.mk (Kd.R_below (by (with_reducible repeat (first | apply Kd.R_alloc | apply Kd.R_drewN | apply Kd.R_drew)); exact HO214.out) hb); have n2_ := Aside0.mk (below_step (by repeat (first | (with_reducible first | exact HB.out | apply below_alloc | apply pw_below_drewN | apply below_drew1) | exact HB.out)) hb); clear HO206; clear HO214; clear HB; have HO206 := n0_; have HO214 := n1_; have HB := n2_; clear n0_ n1_ n2_; (try clear hb); (try clear hb2); (try clear hk); (try clear hi)) | ((with_reducible refine gate_builtin (b := .append) (xs := #[.const (.slice none 0 0), .tmp 25]) rfl ?_); (try (refine gate_guard (by rfl) ?_; dsimp only)); at_builtin; refine Kd.R_append_rows (Kd.int .u64) (w0 := w) w.heap.size rfl (.const (.slice none 0 0)) (.tmp 25) 33 34 (.int .u64 0) 8 rfl Try.underlying33 info34 rfl (by decide) (by omega) (.slice none 0 0) ([] : List Int) y215 _ _ _ (fun k_ => some k_ ≠ (.slice Ao66 y204.length co66 : Value).ownBlock ∧ some k_ ≠ (.slice Ao72 t212.length co72 : Value).ownBlock) (fun _ => False) rfl rfl ?aO ?aR (fun _ _ h => h) (fun _ h => h.elim) ?aF ?aB ?aS ?aL ?_; (case aR => rw [show y204.length = y215.length from (Kd.R_reads' HO206.out).1]; repeat (first | exact (Kd.R_reads' HO206.out).2.2 | (with_reducible refine Kd.C_alloc ?_ _) | (with_reducible refine Kd.C_drewN ?_ _) | (with_reducible refine Kd.C_drew ?_))); (case aB => exact (by repeat (first | (with_reducible first | exact HB.out | apply below_alloc | apply pw_below_drewN | apply below_drew1) | exact HB.out))); (case aF => exact (fun k_ hk => ⟨Kd.fresh' (Kd.R_lt (by (with_reducible repeat (first | apply Kd.R_alloc | apply Kd.R_drewN | apply Kd.R_drew)); exact HO206.out)) k_ hk, Kd.fresh' (Kd.R_lt (by (with_reducible repeat (first | apply Kd.R_alloc | apply Kd.R_drewN | apply Kd.R_drew)); exact HO214.out)) k_ hk⟩)); (case aO => exact ((Kd.R_nil _ _ _ _ (fun k_ => some k_ ≠ (.slice Ao66 y204.length co66 : Value).ownBlock ∧ some k_ ≠ (.slice Ao72 t212.length co72 : Value).ownBlock)))); (case aS => exact (below_size (by repeat (first | (with_reducible first | exact HB.out | apply below_alloc | apply pw_below_drewN | apply below_drew1) | exact HB.out)))); (case aL => have := LMc13.out; have hlx_ := (Kd.R_reads' HO206.out).1; omega); intro v218 w74 ho hb hg hat; rw [← Ny217.out] at ho; have n0_ := Aside0.mk (Kd.R_after (Kd.R_apart_nil (by (with_reducible repeat (first | apply Kd.R_alloc | apply Kd.R_drewN | apply Kd.R_drew)); exact HO206.out)) hg hat); have n1_ := Aside0.mk (Kd.R_after (Kd.R_apart_nil (by (with_reducible repeat (first | apply Kd.R_alloc | apply Kd.R_drewN | apply Kd.R_drew)); exact HO214.out)) hg hat); have n2_ := Aside0.mk (hb); have n3_ := Aside0.mk (ho); clear HO206; clear HO214; clear HB; have HO206 := n0_; have HO214 := n1_; have HB := n2_; have HO219 := n3_; clear n0_ n1_ n2_ n3_; clear ho hb hg hat) | ((with_reducible refine gate_builtin (b := .append) (xs := #[.tmp 26, .tmp 27]) rfl ?_); (try (refine gate_guard (by rfl) ?_; dsimp only)); at_builtin; refine Kd.R_append (Kd.int .u64) (w0 := w) w.heap.size rfl (.tmp 26) (.tmp 27) 33 34 (.int .u64 0) 8 rfl Try.underlying33 info34 rfl (by decide) (by omega) v218 y217 0 [.int .u64 0] (fun k_ => some k_ ≠ (.slice Ao66 y204.length co66 : Value).ownBlock ∧ some k_ ≠ (.slice Ao72 t212.length co72 : Value).ownBlock) (fun _ => False) rfl rfl ?aP (fun _ hk => hk.elim) ?aF ?aO ?aB ?aS ?aL ?_; (case aP => exact rfl); (case aB => exact (by repeat (first | (with_reducible first | exact HB.out | apply below_alloc | apply pw_below_drewN | apply below_drew1) | exact HB.out))); (case aF => exact (fun k_ hk => ⟨Kd.fresh' (Kd.R_lt (by (with_reducible repeat (first | apply Kd.R_alloc | apply Kd.R_drewN | apply Kd.R_drew)); exact HO206.out)) k_ hk, Kd.fresh' (Kd.R_lt (by (with_reducible repeat (first | apply Kd.R_alloc | apply Kd.R_drewN | apply Kd.R_drew)); exact HO214.out)) k_ hk⟩)); (case aO => exact (by (with_reducible repeat (first | apply Kd.R_alloc | apply Kd.R_drewN | apply Kd.R_drew)); exact HO219.out)); (case aS => exact (below_size (by repeat (first | (with_reducible first | exact HB.out | apply below_alloc | apply pw_below_drewN | apply below_drew1) | exact HB.out)))); (case aL => have := LMc14.out; omega); intro v221 w75 ho hb hg hat; rw [← Ny220.out] at ho; have n0_ := Aside0.mk (Kd.R_after (ok := (fun k_ => some k_ ≠ (.slice Ao72 t212.length co72 : Value).ownBlock)) (by (with_reducible repeat (first | apply Kd.R_alloc | apply Kd.R_drewN | apply Kd.R_drew)); exact HO206.out) hg hat); have n1_ := Aside0.mk (Kd.R_after (ok := (fun k_ => some k_ ≠ (.slice Ao66 y204.length co66 : Value).ownBlock)) (by (with_reducible repeat (first | apply Kd.R_alloc | apply Kd.R_drewN | apply Kd.R_drew)); exact Kd.R_mono HO214.out (fun _ hk => ⟨hk.1.2, hk.2⟩)) hg hat); have n2_ := Aside0.mk (hb); have n3_ := Aside0.mk (ho); clear HO206; clear HO214; clear HB; clear HO219; have HO206 := n0_; have HO214 := n1_; have HB := n2_; have HO222 := n3_; clear n0_ n1_ n2_ n3_; clear ho hb hg hat; obtain ⟨Ao76, co76, eo76⟩ := Kd.R_slice HO222.out; subst eo76) | (go_at_call 18; (with_reducible refine (plan_Right.calls k _ _ y220 false _ ?side1 ?side2 A15.out).mono ?_); (case side1 => repeat (first | exact (Kd.R_reads' HO222.out).2.2 | (with_reducible refine Kd.C_alloc ?_ _) | (with_reducible refine Kd.C_drewN ?_ _) | (with_reducible refine Kd.C_drew ?_))); (case side2 => exact (Kd.R_reads' HO222.out).2.1); rintro e w77 ⟨rfl, hb⟩; have n0_ := Aside0.mk (Kd.R_below (by (with_reducible repeat (first | apply Kd.R_alloc | apply Kd.R_drewN | apply Kd.R_drew)); exact HO206.out) hb); have n1_ := Aside0.mk (Kd.R_below (by (with_reducible repeat (first | apply Kd.R_alloc | apply Kd.R_drewN | apply Kd.R_drew)); exact HO214.out) hb); have n2_ := Aside0.mk (Kd.R_below (by (with_reducible repeat (first | apply Kd.R_alloc | apply Kd.R_drewN | apply Kd.R_drew)); exact HO222.out) hb); have n3_ := Aside0.mk (below_step (by repeat (first | (with_reducible first | exact HB.out | apply below_alloc | apply pw_below_drewN | apply below_drew1) | exact HB.out)) hb); clear HO206; clear HO214; clear HO222; clear HB; have HO206 := n0_; have HO214 := n1_; have HO222 := n2_; have HB := n3_; clear n0_ n1_ n2_ n3_; (try clear hb); (try clear hb2); (try clear hk); (try clear hi); have hlx78 := (Kd.R_reads' HO206.out).1; have q78 : (1 : Int) ≤ ((y204.length : Int) : Int) := of_decide_eq_true (by first | (with_reducible assumption) | assumption); obtain ⟨i078, hi078, _, hsz78, _⟩ := info_parts info34; have hroom78 : y204.length ≤ co66 := (Kd.R_reads' HO206.out).2.1; have hroomc78 : y215.length ≤ co66 := (by rw [← hlx78]; exact hroom78); have hC78 : Kd.C (Kd.int .u64) _ Ao66 y215.length y215 := (Kd.R_reads' HO206.out).2.2; have hcut78 := cut_from (P := Try.prog) 33 34 .i64 Try.underlying33 hi078 1 hsz78 Ao66 y204.length co66 1 (by omega) (by have h_ := hlx78; have g_ := q78; omega); have hr78 := Kd.C_drop (m := (1 : Int).toNat) (c := co66) hC78 (by omega) hroomc78; obtain ⟨A78, hA78⟩ : ∃ A1, A1 = (if co66 = (1 : Int).toNat then Ao66 else (Ao66 : Option Addr).map (·.add ((1 : Int).toNat * 1))) := ⟨_, rfl⟩; obtain ⟨c78, hc78⟩ : ∃ c1, c1 = co66 - (1 : Int).toNat := ⟨_, rfl⟩; have hy78 : y224.length = y204.length - (1 : Int).toNat := (by rw [Ny224.out, List.length_drop] <;> omega); rw [show (y215).drop (1 : Int).toNat = y224 from Ny224.out.symm] at hr78; replace hr78 : Kd.C (Kd.int .u64) _ A78 y224.length y224 := (by rw [hA78]; exact hr78); rw [← hy78, ← hA78, ← hc78] at hcut78; have HR227 := Aside0.mk hr78; have HC227 := Aside0.mk (show y224.length ≤ c78 from by rw [hy78, hc78]; exact Nat.sub_le_sub_right hroom78 _); clear hr78 hC78 hroom78 hi078 hsz78 hc78 hroomc78; have KY78 := Aside0.mk hy78; have KA78 := Aside0.mk hA78; clear hy78 hA78; have KE78 := Aside0.mk hlx78; have KL78 := Aside0.mk (show 1 ≤ y215.length from by omega); clear hlx78; replace q78 := eq_true q78) | (go_at_call 18; (with_reducible refine (plan_Right.calls k _ _ y224 false _ ?side1 ?side2 A35.out).mono ?_); (case side1 => repeat (first | exact (by repeat (first | (with_reducible exact HR227.out) | (with_reducible refine Kd.C_alloc ?_ _) | (with_reducible refine Kd.C_drewN ?_ _) | (with_reducible refine Kd.C_drew ?_) | exact HR227.out)) | (with_reducible refine Kd.C_alloc ?_ _) | (with_reducible refine Kd.C_drewN ?_ _) | (with_reducible refine Kd.C_drew ?_))); (case side2 => exact HC227.out); rintro e w79 ⟨rfl, hb⟩; have n0_ := Aside0.mk (Kd.R_below (by (with_reducible repeat (first | apply Kd.R_alloc | apply Kd.R_drewN | apply Kd.R_drew)); exact HO206.out) hb); have n1_ := Aside0.mk (Kd.R_below (by (with_reducible repeat (first | apply Kd.R_alloc | apply Kd.R_drewN | apply Kd.R_drew)); exact HO214.out) hb); have n2_ := Aside0.mk (Kd.R_below (by (with_reducible repeat (first | apply Kd.R_alloc | apply Kd.R_drewN | apply Kd.R_drew)); exact HO222.out) hb); have n3_ := Aside0.mk (Kd.C_below (by repeat (first | (with_reducible exact HR227.out) | (with_reducible refine Kd.C_alloc ?_ _) | (with_reducible refine Kd.C_drewN ?_ _) | (with_reducible refine Kd.C_drew ?_) | exact HR227.out)) hb); have n4_ := Aside0.mk (below_step (by repeat (first | (with_reducible first | exact HB.out | apply below_alloc | apply pw_below_drewN | apply below_drew1) | exact HB.out)) hb); clear HO206; clear HO214; clear HO222; clear HR227; clear HB; have HO206 := n0_; have HO214 := n1_; have HO222 := n2_; have HR227 := n3_; have HB := n4_; clear n0_ n1_ n2_ n3_ n4_; (try clear hb); (try clear hb2); (try clear hk); (try clear hi); have p229 : 0 ≤ ((ji56) : Int) := of_decide_eq_true (by first | (with_reducible assumption) | assumption); have q229 : (ji56) < (y215.length : Int) := (by have h_ : ((ji56) : Int) < ((y204.length : Int) : Int) := of_decide_eq_true (by first | (with_reducible assumption) | assumption); first | (have e_ := (Kd.R_reads' HO206.out).1; omega) | simpa only [Ny211.out, Ny215.out, List.length_set] using h_); have ql229 : (((ji56) : Int) < ((y204.length : Int) : Int)) = True := eq_true (of_decide_eq_true (by first | (with_reducible assumption) | assumption)); obtain ⟨ad229, e229, hx229_0⟩ := Kd.at_int (Kd.R_reads' HO206.out).2.2 (ji56) p229 q229; cases e229; replace p229 := eq_true p229; replace q229 := eq_true q229; have p59 : 0 ≤ ((ji56) : Int) := of_decide_eq_true (by first | (with_reducible assumption) | assumption); have q59 : ((ji56) : Int) < ((y204.length : Int) : Int) := of_decide_eq_true (by first | (with_reducible assumption) | assumption); obtain ⟨go59, co59, eo59, gb59, gl59, cl59, HG59⟩ := Kd.R_form HO206.out (by first | omega | (have e_ := (Kd.R_reads' HO206.out).1; omega) | (simp only [Ny211.out, Ny215.out, List.length_set]; omega)); (first | cases eo59 | (injection eo59 with ea_ en_ ec_; (first | subst ea_ | (injection ea_ with ea_; subst ea_)); subst ec_; clear en_)); have GB59 := Aside0.mk gb59; have GG59 := Aside0.mk HG59; clear gb59 gl59 HG59; (first | simp only [add_plain] at hx229_0 | skip); obtain ⟨hx59_0, hf59_0⟩ := Kd.R_celln 0 HO206.out ((ji56) : Int) p59 q59; replace p59 := eq_true p59; replace q59 := eq_true q59; obtain ⟨hy80_, hz80_⟩ := Kd.R_celln 0 HO206.out ((ji56) : Int) (of_decide_eq_true (by first | (with_reducible assumption) | assumption)) (of_decide_eq_true (by first | (with_reducible assumption) | assumption)); have HP80 := Kd.R_putg HO206.out ((ji56) : Int) a2) | ((with_reducible refine gate_store (t := 34) (p := 47) rfl ?_); refine store_event (t := 34) (p := 47) (v := ?vo_w81) (w1 := (w79.setCell ⟨go59, ((ji56) : Int).toNat, none⟩ (.int .u64 a2))) ?hg ?ho ?hn ?hr ?_; (case ho => rfl); (case hg => rfl); (case hn => rfl); (case hr => first | (go_simp; done) | (go_simp; rfl)); intro w81 hw; have hg : w79.grownBy w81 (some go59) := (by rw [hw]; exact HP80.2); have hp_ : Kd.R (Kd.int .u64) 34 w81 w.heap.size (fun k_ => some k_ ≠ (.slice Ao72 t212.length co72 : Value).ownBlock ∧ some k_ ≠ (.slice Ao76 y220.length co76 : Value).ownBlock) (.slice (some ⟨go59, 0, none⟩) y204.length co66) y230 := (by rw [hw, Ny230.out]; exact HP80.1); clear HP80; have n0_ := Aside0.mk (hp_); have n1_ := Aside0.mk (Kd.R_after (v := (.slice (some ⟨go59, 0, none⟩) y204.length co66)) (v1 := (.slice (some ⟨go59, 0, none⟩) y204.length co66)) (ok := (fun k_ => some k_ ≠ (.slice Ao76 y220.length co76 : Value).ownBlock)) (by (with_reducible repeat (first | apply Kd.R_alloc | apply Kd.R_drewN | apply Kd.R_drew)); exact Kd.R_mono HO214.out (fun _ hk => ⟨hk.2, hk.1⟩)) hg (.inl rfl)); have n2_ := Aside0.mk (Kd.R_after (v := (.slice (some ⟨go59, 0, none⟩) y204.length co66)) (v1 := (.slice (some ⟨go59, 0, none⟩) y204.length co66)) (ok := (fun k_ => some k_ ≠ (.slice Ao72 t212.length co72 : Value).ownBlock)) (by (with_reducible repeat (first | apply Kd.R_alloc | apply Kd.R_drewN | apply Kd.R_drew)); exact Kd.R_mono HO222.out (fun _ hk => ⟨hk.2, hk.1⟩)) hg (.inl rfl)); have n3_ := Aside0.mk ((by rw [hw]; exact below_set (HB.out) GB59.out : Below w.heap.size w w81)); clear HO206; clear HO214; clear HO222; clear HB; have HO206 := n0_; have HO214 := n1_; have HO222 := n2_; have HB := n3_; clear n0_ n1_ n2_ n3_; clear hg hw hp_) | ((with_reducible refine gate_callee (f := 18) rfl ?_); refine goesL_ (some 49) rfl rfl Try.func18 (by kernel_rfl) rfl #[.slice (some ⟨go59, 0, none⟩) y230.length co66] rfl (by (try simp only [List.map_toArray, List.map_cons, List.map_nil]); first | done | (rw [show y230.length = y204.length from (Kd.R_reads' HO206.out).1.symm] <;> rfl) | rfl | (simp only [List.length_drop, List.length_take]; rfl)) ?_; (with_reducible refine (plan_Right.calls k _ _ y230 t231 _ ?side1 ?side2 A60.out).mono ?_); (case side1 => repeat (first | exact (Kd.R_reads' HO206.out).2.2 | (with_reducible refine Kd.C_alloc ?_ _) | (with_reducible refine Kd.C_drewN ?_ _) | (with_reducible refine Kd.C_drew ?_))); (case side2 => rw [show y230.length = y204.length from (Kd.R_reads' HO206.out).1.symm]; exact (Kd.R_reads' HO206.out).2.1); rintro e w82 ⟨rfl, hb⟩; refine ⟨_, rfl, ?_⟩; have n0_ := Aside0.mk (Kd.R_below (by (with_reducible repeat (first | apply Kd.R_alloc | apply Kd.R_drewN | apply Kd.R_drew)); exact HO206.out) hb); have n1_ := Aside0.mk (Kd.R_below (by (with_reducible repeat (first | apply Kd.R_alloc | apply Kd.R_drewN | apply Kd.R_drew)); exact HO214.out) hb); have n2_ := Aside0.mk (Kd.R_below (by (with_reducible repeat (first | apply Kd.R_alloc | apply Kd.R_drewN | apply Kd.R_drew)); exact HO222.out) hb); have n3_ := Aside0.mk (below_step (by repeat (first | (with_reducible first | exact HB.out | apply below_alloc | apply pw_below_drewN | apply below_drew1) | exact HB.out)) hb); clear HO206; clear HO214; clear HO222; clear HB; have HO206 := n0_; have HO214 := n1_; have HO222 := n2_; have HB := n3_; clear n0_ n1_ n2_ n3_; (try clear hb); (try clear hb2); (try clear hk); (try clear hi)))
                          go_ret
                          exact ⟨by first | rfl | (simp [errW_none, errW_some] <;> rfl) | (simp only [← hji56]; first | rfl | (simp [errW_none, errW_some] <;> rfl)) | (simp [*, errW_none, errW_some] <;> rfl), by repeat (first | (with_reducible first | exact HB.out | apply below_alloc | apply pw_below_drewN | apply below_drew1) | exact HB.out)⟩
                        · rw [if_neg c58] at H
                          exact absurd H (by simp)
                      · rw [if_neg c57] at H
                        exact absurd H (by simp)
                  · rw [if_neg c34] at H
                    exact absurd H (by simp)
              · rw [if_neg c14] at H
                exact absurd H (by simp)
            · rw [if_neg c13] at H
              exact absurd H (by simp)
          · replace c12 := Bool.eq_false_iff.mpr c12
            subst c12
            have H1 : (some false) = some r := by rw [if_neg (show ¬ (false = true) by decide)] at H; exact H
            clear H
            have H := H1
            clear H1
            obtain rfl := Option.some.inj H
            go_enter Try.func6, Try.ntmps6
            go_wp2_with (first | ((with_reducible refine gate_callee (f := 8) rfl ?_); refine goesL_ (some 10) rfl rfl Try.func8 (by kernel_rfl) rfl #[] rfl (by (try simp only [List.map_toArray, List.map_cons, List.map_nil]); first | done | rfl | (simp only [List.length_drop, List.length_take]; rfl)) ?_; (with_reducible refine (escritoirelaw05_lives.calls k  true _ A4.out).mono ?_); rintro e w83 ⟨rfl, hb⟩; refine ⟨_, rfl, ?_⟩; have n0_ := Aside0.mk (below_step (by repeat (first | (with_reducible first | exact HB.out | apply below_alloc | apply pw_below_drewN | apply below_drew1) | exact HB.out)) hb); clear HB; have HB := n0_; clear n0_; (try clear hb); (try clear hb2); (try clear hk); (try clear hi)) | ((with_reducible refine gate_callee (f := 16) rfl ?_); refine goesL_ (some 12) rfl rfl Try.func16 (by kernel_rfl) rfl #[] rfl (by (try simp only [List.map_toArray, List.map_cons, List.map_nil]); first | done | rfl | (simp only [List.length_drop, List.length_take]; rfl)) ?_; (with_reducible refine (plan_Size.calls k  t203 _ A6.out).mono ?_); rintro e w84 ⟨rfl, hb⟩; refine ⟨_, rfl, ?_⟩; have n0_ := Aside0.mk (below_step (by repeat (first | (with_reducible first | exact HB.out | apply below_alloc | apply pw_below_drewN | apply below_drew1) | exact HB.out)) hb); clear HB; have HB := n0_; clear n0_; (try clear hb); (try clear hb2); (try clear hk); (try clear hi)) | ((with_reducible refine gate_dst (N := 13) rfl ?_); (try (refine gate_guard (by rfl) ?_; dsimp only)); refine Kd.R_make (Kd.int .u64) _ 34 rfl (N := 13) rfl 33 _ _ rfl t203 rfl rfl Try.underlying33 (.int .u64 0) 8 info34 rfl (by decide) (by omega) 0 (ok := fun _ => True) (okp := fun _ => True) rfl (fun _ hk => hk) trivial (of_decide_eq_true (by first | (with_reducible assumption) | assumption)) (Nat.le_trans (Nat.mul_le_mul_right _ (of_decide_eq_true (by first | (with_reducible assumption) | assumption) : t203.toNat ≤ 35184372088832)) (by omega)) (Below.refl _ _) (Nat.le_refl _) ?_; intro v205 w85 ho86 hb hg_ hnew_; clear hg_ hnew_; (first | rw [← Ny204.out] at ho86 | (simp only [Int.reduceToNat] at ho86; rw [← Ny204.out] at ho86)); have n0_ := Aside0.mk (Kd.R_lower ho86 (below_size (by repeat (first | (with_reducible first | exact HB.out | apply below_alloc | apply pw_below_drewN | apply below_drew1) | exact HB.out)))); have n1_ := Aside0.mk (below_step (by repeat (first | (with_reducible first | exact HB.out | apply below_alloc | apply pw_below_drewN | apply below_drew1) | exact HB.out)) hb); clear HB; have HO206 := n0_; have HB := n1_; clear n0_ n1_; clear hb ho86; obtain ⟨Ao88, co88, eo88⟩ := Kd.R_slice HO206.out; subst eo88; have q87 : (8 : Int) ≤ ((y204.length : Int) : Int) := of_decide_eq_true (by first | (with_reducible assumption) | assumption); obtain ⟨i087, hi087, _, hsz87, _⟩ := info_parts info34; have hroom87 : y204.length ≤ co88 := (Kd.R_reads' HO206.out).2.1; have hC87 : Kd.C (Kd.int .u64) _ Ao88 y204.length y204 := (Kd.R_reads' HO206.out).2.2; have hcut87 := cut_from (P := Try.prog) 33 34 .i64 Try.underlying33 hi087 1 hsz87 Ao88 y204.length co88 8 (by omega) q87; have hr87 := Kd.C_drop (m := (8 : Int).toNat) (c := co88) hC87 (by omega) hroom87; obtain ⟨A87, hA87⟩ : ∃ A1, A1 = (if co88 = (8 : Int).toNat then Ao88 else (Ao88 : Option Addr).map (·.add ((8 : Int).toNat * 1))) := ⟨_, rfl⟩; obtain ⟨c87, hc87⟩ : ∃ c1, c1 = co88 - (8 : Int).toNat := ⟨_, rfl⟩; have hy87 : y207.length = y204.length - (8 : Int).toNat := (by rw [Ny207.out, List.length_drop] <;> omega); rw [show (y204).drop (8 : Int).toNat = y207 from Ny207.out.symm] at hr87; replace hr87 : Kd.C (Kd.int .u64) _ A87 y207.length y207 := (by rw [hA87]; exact hr87); rw [← hy87, ← hA87, ← hc87] at hcut87; have HR210 := Aside0.mk hr87; have HC210 := Aside0.mk (show y207.length ≤ c87 from by rw [hy87, hc87]; exact Nat.sub_le_sub_right hroom87 _); clear hr87 hC87 hroom87 hi087 hsz87 hc87; have KY87 := Aside0.mk hy87; have KA87 := Aside0.mk hA87; clear hy87 hA87; have KL87 := Aside0.mk (show 8 ≤ y204.length from by omega); replace q87 := eq_true q87) | ((with_reducible refine gate_builtin (b := .copy) (xs := #[.tmp 15, .tmp 16]) rfl ?_); (try (refine gate_guard (by rfl) ?_; dsimp only)); skip; refine kd_copy_at (enc := Value.int .u64) (h1 := fun _ => rfl) (w0 := w) w.heap.size rfl (.tmp 15) (.tmp 16) 33 33 34 rfl Try.underlying33 (by kernel_rfl) (.slice Ao88 y204.length co88) y204 l0 _ Ao88 _ _ _ y204.length co88 _ _ ((8 : Int).toNat) (fun _ => True) rfl rfl rfl ?cA ?cN ?cK ?cO ?cR ?cB ?cS ?_; (case cA => exact KA87.out); (case cN => have h_ := (Kd.R_reads' HO206.out).1; have a_ := KY87.out; omega); (case cK => have h_ := KL87.out; omega); (case cO => exact (by (with_reducible repeat (first | apply Kd.R_alloc | apply Kd.R_drewN | apply Kd.R_drew)); exact HO206.out)); (case cR => repeat (first | exact (Kd.C_below HR0.out HB.out) | (with_reducible refine Kd.C_alloc ?_ _) | (with_reducible refine Kd.C_drewN ?_ _) | (with_reducible refine Kd.C_drew ?_))); (case cB => exact (by repeat (first | (with_reducible first | exact HB.out | apply below_alloc | apply pw_below_drewN | apply below_drew1) | exact HB.out))); (case cS => exact ((below_size (by repeat (first | (with_reducible first | exact HB.out | apply below_alloc | apply pw_below_drewN | apply below_drew1) | exact HB.out))))); intro w89 ho hb hg; rw [show ((8 : Int).toNat) = 8 from rfl] at ho; rw [← Ny211.out] at ho; replace ho : Kd.R (Kd.int .u64) 34 w89 w.heap.size (fun _ => True) (.slice Ao88 y204.length co88) y211 := ho; have n0_ := Aside0.mk (ho); have n1_ := Aside0.mk (hb); clear HO206; clear HB; have HO206 := n0_; have HB := n1_; clear n0_ n1_; clear ho hb hg) | ((with_reducible refine gate_callee (f := 17) rfl ?_); refine goesL_ (some 19) rfl rfl Try.func17 (by kernel_rfl) rfl #[] rfl (by (try simp only [List.map_toArray, List.map_cons, List.map_nil]); first | done | rfl | (simp only [List.length_drop, List.length_take]; rfl)) ?_; (with_reducible refine (plan_Head.calls k  t212 _ A10.out).mono ?_); rintro e w91 ⟨v213, rfl, ho0, hb⟩; refine ⟨_, rfl, ?_⟩; have n0_ := Aside0.mk (Kd.R_elder' (by (with_reducible repeat (first | apply Kd.R_alloc | apply Kd.R_drewN | apply Kd.R_drew)); exact HO206.out) (Kd.R_base ho0) hb); have n1_ := Aside0.mk (Kd.R_lower (Kd.R_new' ho0 (Kd.R_lt (by (with_reducible repeat (first | apply Kd.R_alloc | apply Kd.R_drewN | apply Kd.R_drew)); exact HO206.out))) (below_size (by repeat (first | (with_reducible first | exact HB.out | apply below_alloc | apply pw_below_drewN | apply below_drew1) | exact HB.out)))); have n2_ := Aside0.mk (below_step (by repeat (first | (with_reducible first | exact HB.out | apply below_alloc | apply pw_below_drewN | apply below_drew1) | exact HB.out)) hb); clear HO206; clear HB; have HO206 := n0_; have HO214 := n1_; have HB := n2_; clear n0_ n1_ n2_; (try clear hb); (try clear hb2); (try clear hk); (try clear hi); (try clear ho0); have n_ := Aside0.mk (Kd.R_mono (ok' := (fun k_ => some k_ ≠ (v213 : Value).ownBlock)) HO206.out (fun k_ hk => hk.2)); clear HO206; have HO206 := n_; clear n_; obtain ⟨Ao94, co94, eo94⟩ := Kd.R_slice HO214.out; subst eo94) | ((with_reducible refine gate_builtin (b := .copy) (xs := #[.tmp 18, .tmp 19]) rfl ?_); (try (refine gate_guard (by rfl) ?_; dsimp only)); skip; refine kd_copy (enc := Value.int .u64) (h1 := fun _ => rfl) (w0 := w) w.heap.size rfl (.tmp 18) (.tmp 19) 33 33 34 rfl Try.underlying33 (by kernel_rfl) (.slice Ao88 y204.length co88) y211 t212 _ _ _ (fun k_ => some k_ ≠ (.slice Ao94 t212.length co94 : Value).ownBlock) rfl rfl ?cO ?cR ?cB ?cS ?_; (case cO => exact (by (with_reducible repeat (first | apply Kd.R_alloc | apply Kd.R_drewN | apply Kd.R_drew)); exact HO206.out)); (case cR => repeat (first | exact (Kd.R_reads' HO214.out).2.2 | (with_reducible refine Kd.C_alloc ?_ _) | (with_reducible refine Kd.C_drewN ?_ _) | (with_reducible refine Kd.C_drew ?_))); (case cB => exact (by repeat (first | (with_reducible first | exact HB.out | apply below_alloc | apply pw_below_drewN | apply below_drew1) | exact HB.out))); (case cS => exact ((below_size (by repeat (first | (with_reducible first | exact HB.out | apply below_alloc | apply pw_below_drewN | apply below_drew1) | exact HB.out))))); intro w92 ho hb hg; skip; rw [← Ny215.out] at ho; replace ho : Kd.R (Kd.int .u64) 34 w92 w.heap.size (fun k_ => some k_ ≠ (.slice Ao94 t212.length co94 : Value).ownBlock) (.slice Ao88 y204.length co88) y215 := ho; have n0_ := Aside0.mk (ho); have n1_ := Aside0.mk (Kd.R_after (v := (.slice Ao88 y204.length co88)) (v1 := (.slice Ao88 y204.length co88)) (ok := (fun _ => True)) (by (with_reducible repeat (first | apply Kd.R_alloc | apply Kd.R_drewN | apply Kd.R_drew)); exact HO214.out) hg (.inl rfl)); have n2_ := Aside0.mk (hb); clear HO206; clear HO214; clear HB; have HO206 := n0_; have HO214 := n1_; have HB := n2_; clear n0_ n1_ n2_; clear ho hb hg) | ((with_reducible refine gate_callee (f := 18) rfl ?_); refine goesL_ (some 22) rfl rfl Try.func18 (by kernel_rfl) rfl #[.slice Ao88 y215.length co88] rfl (by (try simp only [List.map_toArray, List.map_cons, List.map_nil]); first | done | (rw [show y215.length = y204.length from (Kd.R_reads' HO206.out).1.symm] <;> rfl) | rfl | (simp only [List.length_drop, List.length_take]; rfl)) ?_; (with_reducible refine (plan_Right.calls k _ _ y215 false _ ?side1 ?side2 A11.out).mono ?_); (case side1 => repeat (first | exact (Kd.R_reads' HO206.out).2.2 | (with_reducible refine Kd.C_alloc ?_ _) | (with_reducible refine Kd.C_drewN ?_ _) | (with_reducible refine Kd.C_drew ?_))); (case side2 => rw [show y215.length = y204.length from (Kd.R_reads' HO206.out).1.symm]; exact (Kd.R_reads' HO206.out).2.1); rintro e w95 ⟨rfl, hb⟩; refine ⟨_, rfl, ?_⟩; have n0_ := Aside0.mk (Kd.R_below (by (with_reducible repeat (first | apply Kd.R_alloc | apply Kd.R_drewN | apply Kd.R_drew)); exact HO206.out) hb); have n1_ := Aside0.mk (Kd.R_below (by (with_reducible repeat (first | apply Kd.R_alloc | apply Kd.R_drewN | apply Kd.R_drew)); exact HO214.out) hb); have n2_ := Aside0.mk (below_step (by repeat (first | (with_reducible first | exact HB.out | apply below_alloc | apply pw_below_drewN | apply below_drew1) | exact HB.out)) hb); clear HO206; clear HO214; clear HB; have HO206 := n0_; have HO214 := n1_; have HB := n2_; clear n0_ n1_ n2_; (try clear hb); (try clear hb2); (try clear hk); (try clear hi)))
            go_ret
            exact ⟨by first | rfl | (simp [errW_none, errW_some] <;> rfl) | (simp [*, errW_none, errW_some] <;> rfl), by repeat (first | (with_reducible first | exact HB.out | apply below_alloc | apply pw_below_drewN | apply below_drew1) | exact HB.out)⟩
        · rw [if_neg c9] at H
          exact absurd H (by simp)
      · rw [if_neg c8] at H
        exact absurd H (by simp)
    · rw [if_neg c7] at H
      exact absurd H (by simp)
  · replace c5 := Bool.eq_false_iff.mpr c5
    subst c5
    have H1 : (some false) = some r := by rw [if_neg (show ¬ (false = true) by decide)] at H; exact H
    clear H
    have H := H1
    clear H1
    obtain rfl := Option.some.inj H
    go_enter Try.func6, Try.ntmps6
    go_wp2_with (first | ((with_reducible refine gate_callee (f := 8) rfl ?_); refine goesL_ (some 10) rfl rfl Try.func8 (by kernel_rfl) rfl #[] rfl (by (try simp only [List.map_toArray, List.map_cons, List.map_nil]); first | done | rfl | (simp only [List.length_drop, List.length_take]; rfl)) ?_; (with_reducible refine (escritoirelaw05_lives.calls k  false _ A4.out).mono ?_); rintro e w96 ⟨rfl, hb⟩; refine ⟨_, rfl, ?_⟩; have n0_ := Aside0.mk (below_step (by repeat (first | (with_reducible first | exact HB.out | apply below_alloc | apply pw_below_drewN | apply below_drew1) | exact HB.out)) hb); clear HB; have HB := n0_; clear n0_; (try clear hb); (try clear hb2); (try clear hk); (try clear hi)))
    go_ret
    exact ⟨by first | rfl | (simp [errW_none, errW_some] <;> rfl) | (simp [*, errW_none, errW_some] <;> rfl), by repeat (first | (with_reducible first | exact HB.out | apply below_alloc | apply pw_below_drewN | apply below_drew1) | exact HB.out)⟩

/-! ### escritoireref05_What: function 19 -/
def escritoireref05_What.j0 : Nat → Int → Bool → Option (Int × Int)
  | 0, _, _ => none
  | k + 1, x0, x9 => if x9 = true then (some (0, 0)) else (if x0 < 8 then (some (1, 0)) else (if x0 < 200 then (some (2, wrap64 (Int.tdiv (wrap64 (x0 - 8)) 8))) else (if x0 < 296 then (some (3, wrap64 (x0 - 200))) else (if x0 < 1288 then (some (4, wrap64 (Int.tdiv (wrap64 (x0 - 296)) 248))) else (some (5, wrap64 (Int.tdiv (wrap64 (x0 - 1288)) 16)))))))
def escritoireref05_What.f (k : Nat) (a0 : Int) : Option (Int × Int) := if a0 < 0 then (escritoireref05_What.j0 k a0 true) else (escritoireref05_What.j0 k a0 (decide (a0 ≥ 2824)))
theorem escritoireref05_What.mono_l : ∀ k, (∀ y0 y1, LeO (escritoireref05_What.j0 k y0 y1) (escritoireref05_What.j0 (k + 1) y0 y1))
  | 0 => fun _ _ r h => by simp [escritoireref05_What.j0] at h
  | k + 1 => by
    have ih0 := escritoireref05_What.mono_l k
    · intro y0 y1
      unfold escritoireref05_What.j0
      repeat' first
      | (with_reducible exact ih0 _ _)
      | (with_reducible exact LeO.refl _)
      | (with_reducible exact LeO.none _)
      | (with_reducible refine LeO.ite ?_ ?_)
      | (with_reducible refine LeO.bind ?_ (fun _ => ?_))
      | exact ih0 _ _
      | exact LeO.none _
      | refine LeO.ite ?_ ?_
      | refine LeO.bind ?_ (fun _ => ?_)
theorem escritoireref05_What.mono : ∀ a0 k, LeO (escritoireref05_What.f k a0) (escritoireref05_What.f (k + 1) a0) := by
  intro a0 k
  have ih0 := escritoireref05_What.mono_l k
  unfold escritoireref05_What.f
  repeat' first
      | (with_reducible exact ih0 _ _)
      | (with_reducible exact LeO.refl _)
      | (with_reducible exact LeO.none _)
      | (with_reducible refine LeO.ite ?_ ?_)
      | (with_reducible refine LeO.bind ?_ (fun _ => ?_))
      | exact ih0 _ _
      | exact LeO.none _
      | refine LeO.ite ?_ ?_
      | refine LeO.bind ?_ (fun _ => ?_)
set_option maxHeartbeats 8000000 in
set_option maxRecDepth 100000 in
theorem escritoireref05_What.calls (k : Nat) (a0 : Int) (r1 : Int) (r2 : Int) (w : World) (h : escritoireref05_What.f k a0 = some (r1, r2)) :
    Calls Try.prog 19 #[.int .i64 a0] w fun e w' => e = .returned (.tuple #[.int .i64 r1, .int .i64 r2]) ∧ Drawn0 w w' := by
  have H : (if a0 < 0 then (escritoireref05_What.j0 k a0 true) else (escritoireref05_What.j0 k a0 (decide (a0 ≥ 2824)))) = some (r1, r2) := h
  clear h
  have HC2 := Aside0.mk H
  clear H
  go_enter Try.func19, Try.ntmps19
  go_upto_region 1 with (fail)
  go_cut [9] (fun v9 wc => ∃ (kq : Nat) (x9_1 : Bool), v9 = .bool x9_1 ∧ Aside0 (escritoireref05_What.j0 kq a0 x9_1 = some (r1, r2)) ∧ Aside0 (kq ≤ k) ∧ Drawn0 w wc)
  case first =>
    have H := HC2.out
    clear HC2
    by_cases c3 : a0 < 0
    · rw [if_pos c3] at H
      have c3b0 : decide (a0 < 0) = true := decide_eq_true c3
      clear c3
      (first | rw [c3b0] | (simp only [i64_w, i32_w]; rw [c3b0]) | skip)
      have H' := Aside0.mk H
      clear H
      go_wp2
      go_meet
      case rel => exact ⟨_, (true), (by first | rfl | (simp; done) | (simp [*]; done) | kernel_rfl), H', ⟨by first | omega | exact Nat.le_refl _⟩, by repeat (first | exact Drawn0.refl _ | apply Drawn0.step)⟩
    · rw [if_neg c3] at H
      have c3b0 : decide (a0 < 0) = false := decide_eq_false c3
      clear c3
      (first | rw [c3b0] | (simp only [i64_w, i32_w]; rw [c3b0]) | skip)
      have H' := Aside0.mk H
      clear H
      go_wp2
      go_meet
      case rel => exact ⟨_, (decide (a0 ≥ 2824)), (by first | rfl | (simp; done) | (simp [*]; done) | kernel_rfl), H', ⟨by first | omega | exact Nat.le_refl _⟩, by repeat (first | exact Drawn0.refl _ | apply Drawn0.step)⟩
  case rest =>
    clear HC2
    try clear c1
    try clear p2
    try clear c3
    try clear c3b0
    obtain ⟨kq, x9_1, rfl, HA, HJ1, ⟨mc1, rfl⟩⟩ := hcut
    cases kq with
    | zero => exact absurd HA.out (by simp [escritoireref05_What.j0])
    | succ kj1 =>
      have H := HA.out
      clear HA
      simp only [escritoireref05_What.j0] at H
      by_cases c4 : x9_1 = true
      · subst c4
        have H1 : (some (0, 0)) = some (r1, r2) := by rw [if_pos rfl] at H; exact H
        clear H
        have H := H1
        clear H1
        simp only [Option.some.injEq, Prod.mk.injEq] at H
        obtain ⟨rfl, rfl⟩ := H
        go_wp2
        go_ret2
        exact ⟨by first | rfl | (simp; done) | (simp [*]; done), by repeat (first | exact Drawn0.refl _ | apply Drawn0.step)⟩
      · replace c4 := Bool.eq_false_iff.mpr c4
        subst c4
        have H1 : (if a0 < 8 then (some (1, 0)) else (if a0 < 200 then (some (2, wrap64 (Int.tdiv (wrap64 (a0 - 8)) 8))) else (if a0 < 296 then (some (3, wrap64 (a0 - 200))) else (if a0 < 1288 then (some (4, wrap64 (Int.tdiv (wrap64 (a0 - 296)) 248))) else (some (5, wrap64 (Int.tdiv (wrap64 (a0 - 1288)) 16))))))) = some (r1, r2) := by rw [if_neg (show ¬ (false = true) by decide)] at H; exact H
        clear H
        have H := H1
        clear H1
        by_cases c5 : a0 < 8
        · rw [if_pos c5] at H
          have c5b0 : decide (a0 < 8) = true := decide_eq_true c5
          clear c5
          simp only [Option.some.injEq, Prod.mk.injEq] at H
          obtain ⟨rfl, rfl⟩ := H
          go_wp2
          go_ret2
          exact ⟨by first | rfl | (simp; done) | (simp [*]; done), by repeat (first | exact Drawn0.refl _ | apply Drawn0.step)⟩
        · rw [if_neg c5] at H
          have c5b0 : decide (a0 < 8) = false := decide_eq_false c5
          clear c5
          by_cases c6 : a0 < 200
          · rw [if_pos c6] at H
            have c6b0 : decide (a0 < 200) = true := decide_eq_true c6
            clear c6
            simp only [Option.some.injEq, Prod.mk.injEq] at H
            obtain ⟨rfl, rfl⟩ := H
            go_wp2
            go_ret2
            exact ⟨by first | rfl | (simp; done) | (simp [*]; done), by repeat (first | exact Drawn0.refl _ | apply Drawn0.step)⟩
          · rw [if_neg c6] at H
            have c6b0 : decide (a0 < 200) = false := decide_eq_false c6
            clear c6
            by_cases c7 : a0 < 296
            · rw [if_pos c7] at H
              have c7b0 : decide (a0 < 296) = true := decide_eq_true c7
              clear c7
              simp only [Option.some.injEq, Prod.mk.injEq] at H
              obtain ⟨rfl, rfl⟩ := H
              go_wp2
              go_ret2
              exact ⟨by first | rfl | (simp; done) | (simp [*]; done), by repeat (first | exact Drawn0.refl _ | apply Drawn0.step)⟩
            · rw [if_neg c7] at H
              have c7b0 : decide (a0 < 296) = false := decide_eq_false c7
              clear c7
              by_cases c8 : a0 < 1288
              · rw [if_pos c8] at H
                have c8b0 : decide (a0 < 1288) = true := decide_eq_true c8
                clear c8
                simp only [Option.some.injEq, Prod.mk.injEq] at H
                obtain ⟨rfl, rfl⟩ := H
                go_wp2
                go_ret2
                exact ⟨by first | rfl | (simp; done) | (simp [*]; done), by repeat (first | exact Drawn0.refl _ | apply Drawn0.step)⟩
              · rw [if_neg c8] at H
                have c8b0 : decide (a0 < 1288) = false := decide_eq_false c8
                clear c8
                simp only [Option.some.injEq, Prod.mk.injEq] at H
                obtain ⟨rfl, rfl⟩ := H
                go_wp2
                go_ret2
                exact ⟨by first | rfl | (simp; done) | (simp [*]; done), by repeat (first | exact Drawn0.refl _ | apply Drawn0.step)⟩

end Go.Proofs.Ytbiabamijodmiaa.Print
