-- Made by wip/tools/wprint.py, a program of this workplace, over the translation. Lean checks it.
import Derived.Test.YtjigomnmfhbjmaaPrint0
import Derived.Test.YtjigomnmfhbjmaaHslicesClone
import Derived.Test.YtjigomnmfhbjmaaHslicesRepeat
namespace Go.Proofs.Ytjigomnmfhbjmaa.Print
open Go.RowKit Go.Proofs.YtjigomnmfhbjmaaW.PrintWords Go.Proofs.YtjigomnmfhbjmaaW.PrintLast Go.Proofs.YtjigomnmfhbjmaaW.PrintMore
attribute [local go_sem] max2_int min2_int max_two min_two max_three min_three max_four min_four   -- for this text's walks alone
set_option linter.unusedVariables false
set_option linter.unusedSimpArgs false

/-! ### turns_Plan: function 12 -/
mutual
def turns_Plan.l0 : Nat → Int → List Int → List Int → Option (List Int)
  | 0, _, _, _ => none
  | k + 1, x1, x5, x6 => turns_Plan.l1 k x1 x5 x6 false (x5.length : Int) 0
def turns_Plan.l1 : Nat → Int → List Int → List Int → Bool → Int → Int → Option (List Int)
  | 0, _, _, _, _, _, _ => none
  | k + 1, x1, x5, x6, x7, x20, x21 => if x21 < x20 then (if 0 ≤ x21 then (if x21 < (x5.length : Int) then ((some (x5.set (x21 : Int).toNat (wrap64 ((mn (rd x5 x21) 1000) - (mn (mn (mx (rd x5 x21) 0) 1000) x1))) : List Int)).bind fun y121 => ((slices_Repeat_int_int.f (([x21] : List Int)) (mn (mn (mx (rd x5 x21) 0) 1000) x1)).bind fun t125 => (if x6.length + t125.length < 17592186044416 then ((some (x6 ++ t125 : List Int)).bind fun y128 => (if x7 = true then (turns_Plan.l1 k x1 y121 y128 true x20 (wrap64 (x21 + 1))) else (turns_Plan.l1 k x1 y121 y128 (decide ((mn (mn (mx (rd x5 x21) 0) 1000) x1) > 0)) x20 (wrap64 (x21 + 1))))) else (none)))) else (none)) else (none)) else (if x7 = true then (turns_Plan.l0 k x1 x5 x6) else (some x6))
end
def turns_Plan.f (k : Nat) (l0 : List Int) (a1 : Int) : Option (List Int) := if 0 ≤ (mn (l0.length : Int) 64) then (if (mn (l0.length : Int) 64) ≤ (l0.length : Int) then ((slices_Clone_int_int.f (l0.take ((mn (l0.length : Int) 64) : Int).toNat)).bind fun t116 => (turns_Plan.l0 k (mn (mx a1 1) 1000) t116 ([] : List Int))) else (none)) else (none)
theorem turns_Plan.mono_l : ∀ k, (∀ y0 y1 y2, LeO (turns_Plan.l0 k y0 y1 y2) (turns_Plan.l0 (k + 1) y0 y1 y2)) ∧ (∀ y0 y1 y2 y3 y4 y5, LeO (turns_Plan.l1 k y0 y1 y2 y3 y4 y5) (turns_Plan.l1 (k + 1) y0 y1 y2 y3 y4 y5))
  | 0 => ⟨fun _ _ _ r h => by simp [turns_Plan.l0] at h, fun _ _ _ _ _ _ r h => by simp [turns_Plan.l1] at h⟩
  | k + 1 => by
    obtain ⟨ih0, ih1⟩ := turns_Plan.mono_l k
    refine ⟨?_, ?_⟩
    · intro y0 y1 y2
      unfold turns_Plan.l0
      repeat' first
      | (with_reducible exact ih0 _ _ _)
      | (with_reducible exact ih1 _ _ _ _ _ _)
      | (with_reducible exact LeO.refl _)
      | (with_reducible exact LeO.none _)
      | (with_reducible refine LeO.ite ?_ ?_)
      | (with_reducible refine LeO.bind ?_ (fun _ => ?_))
      | exact ih0 _ _ _
      | exact ih1 _ _ _ _ _ _
      | exact LeO.none _
      | refine LeO.ite ?_ ?_
      | refine LeO.bind ?_ (fun _ => ?_)
    · intro y0 y1 y2 y3 y4 y5
      unfold turns_Plan.l1
      repeat' first
      | (with_reducible exact ih0 _ _ _)
      | (with_reducible exact ih1 _ _ _ _ _ _)
      | (with_reducible exact LeO.refl _)
      | (with_reducible exact LeO.none _)
      | (with_reducible refine LeO.ite ?_ ?_)
      | (with_reducible refine LeO.bind ?_ (fun _ => ?_))
      | exact ih0 _ _ _
      | exact ih1 _ _ _ _ _ _
      | exact LeO.none _
      | refine LeO.ite ?_ ?_
      | refine LeO.bind ?_ (fun _ => ?_)
theorem turns_Plan.mono : ∀ a0 a1 k, LeO (turns_Plan.f k a0 a1) (turns_Plan.f (k + 1) a0 a1) := by
  intro a0 a1 k
  obtain ⟨ih0, ih1⟩ := turns_Plan.mono_l k
  unfold turns_Plan.f
  repeat' first
      | (with_reducible exact ih0 _ _ _)
      | (with_reducible exact ih1 _ _ _ _ _ _)
      | (with_reducible exact LeO.refl _)
      | (with_reducible exact LeO.none _)
      | (with_reducible refine LeO.ite ?_ ?_)
      | (with_reducible refine LeO.bind ?_ (fun _ => ?_))
      | exact ih0 _ _ _
      | exact ih1 _ _ _ _ _ _
      | exact LeO.none _
      | refine LeO.ite ?_ ?_
      | refine LeO.bind ?_ (fun _ => ?_)
set_option maxHeartbeats 8000000 in
set_option maxRecDepth 100000 in
theorem turns_Plan.calls (k : Nat) (A0 : Option Addr) (c0 : Nat) (l0 : List Int) (a1 : Int) (r : List Int) (w : World) (hr0 : Kd.C (Kd.int .i64) w A0 l0.length l0) (hc0 : l0.length ≤ c0) (h : turns_Plan.f k l0 a1 = some r) :
    Calls Try.prog 12 #[.slice A0 l0.length c0, .int .i64 a1] w fun e w' => ∃ v0_ : Value, e = .returned (v0_) ∧ Kd.R (Kd.int .i64) 3 w' w.heap.size (fun _ => True) v0_ r ∧ Below w.heap.size w w' := by
  have HR0 := Aside0.mk hr0
  have HC0 := Aside0.mk hc0
  clear hr0 hc0
  have HB := Aside0.mk (Below.refl w.heap.size w)
  have H : (if 0 ≤ (mn (l0.length : Int) 64) then (if (mn (l0.length : Int) 64) ≤ (l0.length : Int) then ((slices_Clone_int_int.f (l0.take ((mn (l0.length : Int) 64) : Int).toNat)).bind fun t116 => (turns_Plan.l0 k (mn (mx a1 1) 1000) t116 ([] : List Int))) else (none)) else (none)) = some r := h
  clear h
  obtain ⟨ji3, hji3⟩ : ∃ j_ : Int, (mn (l0.length : Int) 64) = j_ := ⟨_, rfl⟩
  replace H : (if 0 ≤ (ji3) then (if (ji3) ≤ (l0.length : Int) then ((slices_Clone_int_int.f (l0.take ((ji3) : Int).toNat)).bind fun t116 => (turns_Plan.l0 k (mn (mx a1 1) 1000) t116 ([] : List Int))) else (none)) else (none)) = some r := by first | (rw [hji3] at H; exact H) | (simp only [hji3] at H ⊢; exact H)
  (try (have hji3h : ji3 ≤ 64 := by (rw [← hji3]; unfold mn; (repeat' split) <;> omega)))
  (try (have hji3g : ji3 ≤ 64 := by omega))
  (try (have hji3l : 0 ≤ ji3 := by (rw [← hji3]; unfold mn; (repeat' split) <;> omega)))
  (try (have hji3m : 0 ≤ ji3 := by omega))
  (try (have hji3x : max ji3 0 = ji3 := by omega))
  have hji3_ : (if 64 < (l0.length : Int) then 64 else (l0.length : Int)) = ji3 := hji3
  by_cases c4 : 0 ≤ (ji3)
  · rw [if_pos c4] at H
    have c4b0 := eq_true c4
    have c4b1 : decide (0 ≤ (ji3)) = true := decide_eq_true c4
    clear c4
    by_cases c5 : (ji3) ≤ (l0.length : Int)
    · rw [if_pos c5] at H
      have c5b0 := eq_true c5
      have c5b1 : decide ((ji3) ≤ (l0.length : Int)) = true := decide_eq_true c5
      clear c5
      obtain ⟨y112, hy112⟩ : ∃ y_ : List Int, y_ = (l0.take ((ji3) : Int).toNat) := ⟨_, rfl⟩
      replace H : ((slices_Clone_int_int.f y112).bind fun t116 => (turns_Plan.l0 k (mn (mx a1 1) 1000) t116 ([] : List Int))) = some r := by first | (rw [hy112]; with_reducible exact H) | (have H2_ := (Option.bind_some _ _).symm.trans H; rw [hy112]; with_reducible exact H2_) | (have H2_ := (Option.bind_some _ _).symm.trans H; with_reducible exact H2_) | with_reducible exact H | (rw [hy112]; exact H) | exact H
      have Ny112 := Aside0.mk hy112
      clear hy112
      replace H := Option.bind_eq_some_iff.mp H
      obtain ⟨t116, A60, H⟩ := H
      replace H : (turns_Plan.l0 k (mn (mx a1 1) 1000) t116 ([] : List Int)) = some r := H
      have A6 := Aside0.mk A60
      clear A60
      obtain ⟨ji7, hji7⟩ : ∃ j_ : Int, (mx a1 1) = j_ := ⟨_, rfl⟩
      replace H : (turns_Plan.l0 k (mn (ji7) 1000) t116 ([] : List Int)) = some r := by first | (rw [hji7] at H; exact H) | (simp only [hji7] at H ⊢; exact H)
      (try rw [hji7] at A6)
      (try (have hji7l : 1 ≤ ji7 := by (rw [← hji7]; unfold mx; (repeat' split) <;> omega)))
      (try (have hji7m : 0 ≤ ji7 := by omega))
      (try (have hji7x : max ji7 0 = ji7 := by omega))
      have hji7_ : (if a1 < 1 then 1 else a1) = ji7 := hji7
      obtain ⟨ji8, hji8⟩ : ∃ j_ : Int, (mn (ji7) 1000) = j_ := ⟨_, rfl⟩
      replace H : (turns_Plan.l0 k ji8 t116 ([] : List Int)) = some r := by first | (rw [hji8] at H; exact H) | (simp only [hji8] at H ⊢; exact H)
      (try rw [hji8] at A6)
      have hji8_ : (if 1000 < (ji7) then 1000 else (ji7)) = ji8 := hji8
      have H' := Aside0.mk H
      clear H
      have q9 : ((ji3) : Int) ≤ ((l0.length : Int) : Int) := of_decide_eq_true (by first | (with_reducible assumption) | assumption)
      obtain ⟨i09, hi09, _, hsz9, _⟩ := info_parts info3
      have hroom9 : l0.length ≤ c0 := HC0.out
      have hC9 : Kd.C (Kd.int .i64) _ A0 l0.length l0 := HR0.out
      have hcut9 := cut_to (P := Try.prog) 23 3 .i64 Try.underlying23 hi09 A0 l0.length c0 (ji3) (of_decide_eq_true (by first | (with_reducible assumption) | assumption)) q9 hroom9
      have hr9 := Kd.C_take (m := ((ji3) : Int).toNat) hC9 (by omega)
      have hy9 : y112.length = ((ji3) : Int).toNat := (by rw [Ny112.out, List.length_take]; omega)
      rw [← Ny112.out] at hr9
      rw [← hy9] at hcut9
      have HR115 := Aside0.mk hr9
      have HC115 := Aside0.mk (show y112.length ≤ c0 from by omega)
      clear hr9 hC9 hroom9 hi09 hsz9
      have KY9 := Aside0.mk hy9
      clear hy9
      replace q9 := eq_true q9
      go_enter Try.func12, Try.ntmps12
      try go_wp2_with fail
      try go_step3
      go_wp2_with (first | ((with_reducible refine gate_callee (f := 18) rfl ?_); refine goesL_ (some 15) rfl rfl Try.func18 (by kernel_rfl) rfl #[.slice A0 y112.length c0] rfl (by (try simp only [List.map_toArray, List.map_cons, List.map_nil]); first | done | rfl | (simp only [List.length_drop, List.length_take]; rfl)) ?_; (with_reducible refine (slices_Clone_int_int.calls _ _ y112 t116 _ ?side1 ?side2 A6.out).mono ?_); (case side1 => repeat (first | exact HR115.out | (with_reducible refine Kd.C_alloc ?_ _) | (with_reducible refine Kd.C_drewN ?_ _) | (with_reducible refine Kd.C_drew ?_))); (case side2 => exact HC115.out); rintro e w10 ⟨v117, rfl, ho0, hb⟩; refine ⟨_, rfl, ?_⟩; have n0_ := Aside0.mk (Kd.R_lower ho0 (below_size (by repeat (first | (with_reducible first | exact HB.out | apply below_alloc | apply pw_below_drewN | apply below_drew1) | exact HB.out)))); have n1_ := Aside0.mk (below_step (by repeat (first | (with_reducible first | exact HB.out | apply below_alloc | apply pw_below_drewN | apply below_drew1) | exact HB.out)) hb); clear HB; have HO118 := n0_; have HB := n1_; clear n0_ n1_; (try clear hb); (try clear hb2); (try clear hk); (try clear hi); (try clear ho0)))
      try go_step3
      try go_wp2_with fail
      go_loopg [6] k (fun kq v6 w' => ∃ (x5_1 : List Int) (x6_1 : List Int), Aside0 (turns_Plan.l0 kq ji8 x5_1 x6_1 = some r) ∧ Aside0 (kq ≤ k) ∧ Aside0 (Kd.R (Kd.int .i64) 3 w' w.heap.size (fun k_ => some k_ ≠ (v6 : Value).ownBlock) v117 x5_1) ∧ Aside0 (Kd.R (Kd.int .i64) 3 w' w.heap.size (fun k_ => some k_ ≠ (v117 : Value).ownBlock) v6 x6_1) ∧ Aside0 (Below w.heap.size w w'))
      case atStart => exact ⟨(t116), (([] : List Int)), H', ⟨Nat.le_refl _⟩, ⟨by (with_reducible repeat (first | apply Kd.R_alloc | apply Kd.R_drewN | apply Kd.R_drew)); exact Kd.R_mono HO118.out (fun _ hk => (by simp [Value.ownBlock]))⟩, ⟨by first | exact Kd.R_nil _ _ _ _ _ | exact Kd.N_nil _ _ _ _ _ | exact Kd.V_nil _ _ _ _ _ | exact Kd.Q_nil _ _ _ _ _ | exact Kd.S_nil _ _ _ _ _⟩, ⟨by repeat (first | (with_reducible first | exact HB.out | apply below_alloc | apply pw_below_drewN | apply below_drew1) | exact HB.out)⟩⟩
      case round =>
        clear H'
        try clear c1
        try clear p2
        try clear p3
        try clear c4
        try clear c4b0
        try clear c4b1
        try clear c5
        try clear c5b0
        try clear c5b1
        try clear q9
        try clear q9
        obtain ⟨x5_1, x6_1, HA, HK1, HO_5, HO_6, HB⟩ := hrel
        cases gk with
        | zero => exact absurd HA.out (by simp [turns_Plan.l0])
        | succ k1 =>
          have H := HA.out
          clear HA
          simp only [turns_Plan.l0] at H
          have H' := Aside0.mk H
          clear H
          obtain ⟨Ao11, co11, eo11⟩ := Kd.R_slice HO_5.out
          subst eo11
          go_wp2
          try go_step3
          try go_wp2_with fail
          go_loopg [6, 7, 21] k1 (fun kq v6 v7 v21 w' => ∃ (x5_2 : List Int) (x6_2 : List Int) (x7_2 : Bool) (x21_2 : Int), v7 = .bool x7_2 ∧ v21 = .int .i64 x21_2 ∧ Aside0 (turns_Plan.l1 kq ji8 x5_2 x6_2 x7_2 (x5_1.length : Int) x21_2 = some r) ∧ Aside0 (kq ≤ k1) ∧ Aside0 (Kd.R (Kd.int .i64) 3 w' w.heap.size (fun k_ => some k_ ≠ (v6 : Value).ownBlock) (.slice Ao11 x5_1.length co11) x5_2) ∧ Aside0 (Kd.R (Kd.int .i64) 3 w' w.heap.size (fun k_ => some k_ ≠ ((.slice Ao11 x5_1.length co11) : Value).ownBlock) v6 x6_2) ∧ Aside0 (Below w.heap.size w w'))
          case atStart => exact ⟨(x5_1), (x6_1), (false), (0), (by first | rfl | (simp; done) | (simp [*]; done)), (by first | rfl | (simp; done) | (simp [*]; done)), H', ⟨Nat.le_refl _⟩, ⟨by (with_reducible repeat (first | apply Kd.R_alloc | apply Kd.R_drewN | apply Kd.R_drew)); exact HO_5.out⟩, ⟨by (with_reducible repeat (first | apply Kd.R_alloc | apply Kd.R_drewN | apply Kd.R_drew)); exact HO_6.out⟩, ⟨by repeat (first | (with_reducible first | exact HB.out | apply below_alloc | apply pw_below_drewN | apply below_drew1) | exact HB.out)⟩⟩
          case round =>
            clear H'
            try clear c1
            try clear p2
            try clear p3
            try clear c4
            try clear c4b0
            try clear c4b1
            try clear c5
            try clear c5b0
            try clear c5b1
            try clear q9
            try clear p2
            try clear p3
            try clear q9
            obtain ⟨x5_2, x6_2, x7_2, x21_2, rfl, rfl, HA, HK2, HO_5, HO_6, HB⟩ := hrel
            have hl5_2 := (Kd.R_reads' HO_5.out).1
            rw [hl5_2] at HO_5
            (try simp only [hl5_2])
            (try simp only [hl5_2] at HO_6)
            cases gk with
            | zero => exact absurd HA.out (by simp [turns_Plan.l1])
            | succ k2 =>
              have H := HA.out
              clear HA
              simp only [turns_Plan.l1] at H
              by_cases c12 : x21_2 < (x5_1.length : Int)
              · rw [if_pos c12] at H
                have c12b0 : decide (x21_2 < (x5_1.length : Int)) = true := decide_eq_true c12
                (try (have c12b2 := c12b0; simp only [hl5_2] at c12b2))
                clear c12
                by_cases c13 : 0 ≤ x21_2
                · rw [if_pos c13] at H
                  have c13b0 : decide (0 ≤ x21_2) = true := decide_eq_true c13
                  clear c13
                  by_cases c14 : x21_2 < (x5_2.length : Int)
                  · rw [if_pos c14] at H
                    have c14b0 : decide (x21_2 < (x5_2.length : Int)) = true := decide_eq_true c14
                    (try (have c14b2 := c14b0; simp only [hl5_2] at c14b2))
                    clear c14
                    obtain ⟨ji15, hji15⟩ : ∃ j_ : Int, (mx (rd x5_2 x21_2) 0) = j_ := ⟨_, rfl⟩
                    replace H : ((some (x5_2.set (x21_2 : Int).toNat (wrap64 ((mn (rd x5_2 x21_2) 1000) - (mn (mn (ji15) 1000) ji8))) : List Int)).bind fun y121 => ((slices_Repeat_int_int.f (([x21_2] : List Int)) (mn (mn (ji15) 1000) ji8)).bind fun t125 => (if x6_2.length + t125.length < 17592186044416 then ((some (x6_2 ++ t125 : List Int)).bind fun y128 => (if x7_2 = true then (turns_Plan.l1 k2 ji8 y121 y128 true (x5_1.length : Int) (wrap64 (x21_2 + 1))) else (turns_Plan.l1 k2 ji8 y121 y128 (decide ((mn (mn (ji15) 1000) ji8) > 0)) (x5_1.length : Int) (wrap64 (x21_2 + 1))))) else (none)))) = some r := by first | (rw [hji15] at H; exact H) | (simp only [hji15] at H ⊢; exact H)
                    have hji15_ : (if (rd x5_2 x21_2) < 0 then 0 else (rd x5_2 x21_2)) = ji15 := hji15
                    obtain ⟨ji16, hji16⟩ : ∃ j_ : Int, (mn (ji15) 1000) = j_ := ⟨_, rfl⟩
                    replace H : ((some (x5_2.set (x21_2 : Int).toNat (wrap64 ((mn (rd x5_2 x21_2) 1000) - (mn (ji16) ji8))) : List Int)).bind fun y121 => ((slices_Repeat_int_int.f (([x21_2] : List Int)) (mn (ji16) ji8)).bind fun t125 => (if x6_2.length + t125.length < 17592186044416 then ((some (x6_2 ++ t125 : List Int)).bind fun y128 => (if x7_2 = true then (turns_Plan.l1 k2 ji8 y121 y128 true (x5_1.length : Int) (wrap64 (x21_2 + 1))) else (turns_Plan.l1 k2 ji8 y121 y128 (decide ((mn (ji16) ji8) > 0)) (x5_1.length : Int) (wrap64 (x21_2 + 1))))) else (none)))) = some r := by first | (rw [hji16] at H; exact H) | (simp only [hji16] at H ⊢; exact H)
                    have hji16_ : (if 1000 < (ji15) then 1000 else (ji15)) = ji16 := hji16
                    obtain ⟨ji17, hji17⟩ : ∃ j_ : Int, (mn (ji16) ji8) = j_ := ⟨_, rfl⟩
                    replace H : ((some (x5_2.set (x21_2 : Int).toNat (wrap64 ((mn (rd x5_2 x21_2) 1000) - (ji17))) : List Int)).bind fun y121 => ((slices_Repeat_int_int.f (([x21_2] : List Int)) (ji17)).bind fun t125 => (if x6_2.length + t125.length < 17592186044416 then ((some (x6_2 ++ t125 : List Int)).bind fun y128 => (if x7_2 = true then (turns_Plan.l1 k2 ji8 y121 y128 true (x5_1.length : Int) (wrap64 (x21_2 + 1))) else (turns_Plan.l1 k2 ji8 y121 y128 (decide ((ji17) > 0)) (x5_1.length : Int) (wrap64 (x21_2 + 1))))) else (none)))) = some r := by first | (rw [hji17] at H; exact H) | (simp only [hji17] at H ⊢; exact H)
                    have hji17_ : (if ji8 < (ji16) then ji8 else (ji16)) = ji17 := hji17
                    obtain ⟨ji18, hji18⟩ : ∃ j_ : Int, (mn (rd x5_2 x21_2) 1000) = j_ := ⟨_, rfl⟩
                    replace H : ((some (x5_2.set (x21_2 : Int).toNat (wrap64 ((ji18) - (ji17))) : List Int)).bind fun y121 => ((slices_Repeat_int_int.f (([x21_2] : List Int)) (ji17)).bind fun t125 => (if x6_2.length + t125.length < 17592186044416 then ((some (x6_2 ++ t125 : List Int)).bind fun y128 => (if x7_2 = true then (turns_Plan.l1 k2 ji8 y121 y128 true (x5_1.length : Int) (wrap64 (x21_2 + 1))) else (turns_Plan.l1 k2 ji8 y121 y128 (decide ((ji17) > 0)) (x5_1.length : Int) (wrap64 (x21_2 + 1))))) else (none)))) = some r := by first | (rw [hji18] at H; exact H) | (simp only [hji18] at H ⊢; exact H)
                    have hji18_ : (if 1000 < (rd x5_2 x21_2) then 1000 else (rd x5_2 x21_2)) = ji18 := hji18
                    obtain ⟨y121, hy121⟩ : ∃ y_ : List Int, y_ = (x5_2.set (x21_2 : Int).toNat (wrap64 ((ji18) - (ji17)))) := ⟨_, rfl⟩
                    replace H : ((slices_Repeat_int_int.f (([x21_2] : List Int)) (ji17)).bind fun t125 => (if x6_2.length + t125.length < 17592186044416 then ((some (x6_2 ++ t125 : List Int)).bind fun y128 => (if x7_2 = true then (turns_Plan.l1 k2 ji8 y121 y128 true (x5_1.length : Int) (wrap64 (x21_2 + 1))) else (turns_Plan.l1 k2 ji8 y121 y128 (decide ((ji17) > 0)) (x5_1.length : Int) (wrap64 (x21_2 + 1))))) else (none))) = some r := by first | (rw [hy121]; with_reducible exact H) | (have H2_ := (Option.bind_some _ _).symm.trans H; rw [hy121]; with_reducible exact H2_) | (have H2_ := (Option.bind_some _ _).symm.trans H; with_reducible exact H2_) | with_reducible exact H | (rw [hy121]; exact H) | exact H
                    have Ny121 := Aside0.mk hy121
                    clear hy121
                    obtain ⟨y122, hy122⟩ : ∃ y_ : List Int, y_ = (([x21_2] : List Int)) := ⟨_, rfl⟩
                    replace H : ((slices_Repeat_int_int.f y122 (ji17)).bind fun t125 => (if x6_2.length + t125.length < 17592186044416 then ((some (x6_2 ++ t125 : List Int)).bind fun y128 => (if x7_2 = true then (turns_Plan.l1 k2 ji8 y121 y128 true (x5_1.length : Int) (wrap64 (x21_2 + 1))) else (turns_Plan.l1 k2 ji8 y121 y128 (decide ((ji17) > 0)) (x5_1.length : Int) (wrap64 (x21_2 + 1))))) else (none))) = some r := by first | (rw [hy122]; with_reducible exact H) | (have H2_ := (Option.bind_some _ _).symm.trans H; rw [hy122]; with_reducible exact H2_) | (have H2_ := (Option.bind_some _ _).symm.trans H; with_reducible exact H2_) | with_reducible exact H | (rw [hy122]; exact H) | exact H
                    have Ny122 := Aside0.mk hy122
                    clear hy122
                    replace H := Option.bind_eq_some_iff.mp H
                    obtain ⟨t125, A200, H⟩ := H
                    replace H : (if x6_2.length + t125.length < 17592186044416 then ((some (x6_2 ++ t125 : List Int)).bind fun y128 => (if x7_2 = true then (turns_Plan.l1 k2 ji8 y121 y128 true (x5_1.length : Int) (wrap64 (x21_2 + 1))) else (turns_Plan.l1 k2 ji8 y121 y128 (decide ((ji17) > 0)) (x5_1.length : Int) (wrap64 (x21_2 + 1))))) else (none)) = some r := H
                    have A20 := Aside0.mk A200
                    clear A200
                    by_cases c21 : x6_2.length + t125.length < 17592186044416
                    · rw [if_pos c21] at H
                      have LMc21 := Aside0.mk c21
                      clear c21
                      obtain ⟨y128, hy128⟩ : ∃ y_ : List Int, y_ = (x6_2 ++ t125) := ⟨_, rfl⟩
                      replace H : (if x7_2 = true then (turns_Plan.l1 k2 ji8 y121 y128 true (x5_1.length : Int) (wrap64 (x21_2 + 1))) else (turns_Plan.l1 k2 ji8 y121 y128 (decide ((ji17) > 0)) (x5_1.length : Int) (wrap64 (x21_2 + 1)))) = some r := by first | (rw [hy128]; with_reducible exact H) | (have H2_ := (Option.bind_some _ _).symm.trans H; rw [hy128]; with_reducible exact H2_) | (have H2_ := (Option.bind_some _ _).symm.trans H; with_reducible exact H2_) | with_reducible exact H | (rw [hy128]; exact H) | exact H
                      have Ny128 := Aside0.mk hy128
                      clear hy128
                      by_cases c22 : x7_2 = true
                      · subst c22
                        have H1 : (turns_Plan.l1 k2 ji8 y121 y128 true (x5_1.length : Int) (wrap64 (x21_2 + 1))) = some r := by rw [if_pos rfl] at H; exact H
                        clear H
                        have H := H1
                        clear H1
                        have H' := Aside0.mk H
                        clear H
                        have p119 : 0 ≤ (x21_2 : Int) := of_decide_eq_true (by first | (with_reducible assumption) | assumption)
                        have q119 : x21_2 < (x5_2.length : Int) := of_decide_eq_true (by first | (with_reducible assumption) | assumption)
                        obtain ⟨ad119, e119, hx119_0⟩ := Kd.at_int (Kd.R_reads' HO_5.out).2.2 x21_2 p119 q119
                        cases e119
                        replace p119 := eq_true p119
                        replace q119 := eq_true q119
                        have p120 : 0 ≤ (x21_2 : Int) := of_decide_eq_true (by first | (with_reducible assumption) | assumption)
                        have q120 : x21_2 < (x5_2.length : Int) := of_decide_eq_true (by first | (with_reducible assumption) | assumption)
                        obtain ⟨ad120, e120, hx120_0⟩ := Kd.at_int (Kd.R_reads' HO_5.out).2.2 x21_2 p120 q120
                        obtain rfl : ad119 = ad120 := (by injection e120)
                        replace p120 := eq_true p120
                        replace q120 := eq_true q120
                        have p19 : 0 ≤ (x21_2 : Int) := of_decide_eq_true (by first | (with_reducible assumption) | assumption)
                        have q19 : (x21_2 : Int) < ((x5_2.length : Int) : Int) := of_decide_eq_true (by first | (with_reducible assumption) | assumption)
                        obtain ⟨go19, co19, eo19, gb19, gl19, cl19, HG19⟩ := Kd.R_form HO_5.out (by omega)
                        (first | cases eo19 | (injection eo19 with ea_ en_ ec_; (first | subst ea_ | (injection ea_ with ea_; subst ea_)); subst ec_; clear en_))
                        have GB19 := Aside0.mk gb19
                        have GG19 := Aside0.mk HG19
                        clear gb19 gl19 HG19
                        (first | simp only [add_plain] at hx119_0 | skip)
                        (first | simp only [add_plain] at hx120_0 | skip)
                        obtain ⟨hx19_0, hf19_0⟩ := Kd.R_celln 0 HO_5.out (x21_2 : Int) p19 q19
                        replace p19 := eq_true p19
                        replace q19 := eq_true q19
                        have HP23 := Kd.R_putg HO_5.out (x21_2 : Int) (wrap64 ((ji18) - (ji17)))
                        go_wp2_with (first | ((with_reducible refine gate_store (t := 3) (p := 40) rfl ?_); refine store_event (t := 3) (p := 40) (v := ?vo_w24) (w1 := (wr.setCell ⟨go19, (x21_2 : Int).toNat, none⟩ (.int .i64 (wrap64 ((ji18) - (ji17)))))) ?hg ?ho ?hn ?hr ?_; (case ho => rfl); (case hg => rfl); (case hn => rfl); (case hr => first | (go_simp; done) | (go_simp; rfl)); intro w24 hw; have hg : wr.grownBy w24 (some go19) := (by rw [hw]; exact HP23.2); have hp_ : Kd.R (Kd.int .i64) 3 w24 w.heap.size (fun k_ => some k_ ≠ (u6 : Value).ownBlock) (.slice (some ⟨go19, 0, none⟩) x5_2.length co11) y121 := (by rw [hw, Ny121.out]; exact HP23.1); clear HP23; have n0_ := Aside0.mk (hp_); have n1_ := Aside0.mk (Kd.R_after (v := (.slice (some ⟨go19, 0, none⟩) x5_2.length co11)) (v1 := (.slice (some ⟨go19, 0, none⟩) x5_2.length co11)) (ok := (fun _ => True)) (by (with_reducible repeat (first | apply Kd.R_alloc | apply Kd.R_drewN | apply Kd.R_drew)); exact Kd.R_mono HO_6.out (fun _ hk => ⟨trivial, hk⟩)) hg (.inl rfl)); have n2_ := Aside0.mk ((by rw [hw]; exact below_set (HB.out) GB19.out : Below w.heap.size w w24)); clear HO_5; clear HO_6; clear HB; have HO_5 := n0_; have HO_6 := n1_; have HB := n2_; clear n0_ n1_ n2_; clear hg hw hp_) | ((with_reducible refine gate_dst (N := 43) rfl ?_); refine Kd.R_lit (Kd.int .i64) _ 3 ?hg (N := 43) ?hd (xs := ([x21_2] : List Int)) (inner := [.int .i64 x21_2]) (ok := fun _ => True) (okp := fun _ => True) ?hr ?hp (fun _ hk => hk) trivial (Below.refl _ _) (Nat.le_refl _) (by simp) ?_; (case hd => rfl); (case hg => rfl); (case hr => first | (go_simp; done) | (go_simp; rfl)); (case hp => exact (Reps.one (show Kd.M (Kd.int .i64) _ _ _ x21_2 [.int .i64 x21_2] from rfl) (Reps.none _ _))); intro v123 w25 ho26 hb hg_ hnew_; clear hg_ hnew_; (first | rw [← Ny122.out] at ho26 | (simp only [Int.reduceToNat] at ho26; rw [← Ny122.out] at ho26)); have n0_ := Aside0.mk (Kd.R_elder' (by (with_reducible repeat (first | apply Kd.R_alloc | apply Kd.R_drewN | apply Kd.R_drew)); exact HO_5.out) (Kd.R_base ho26) hb); have n1_ := Aside0.mk (Kd.R_elder' (by (with_reducible repeat (first | apply Kd.R_alloc | apply Kd.R_drewN | apply Kd.R_drew)); exact HO_6.out) (Kd.R_base ho26) hb); have n2_ := Aside0.mk (Kd.R_lower (Kd.R_new' (Kd.R_new' ho26 (Kd.R_lt (by (with_reducible repeat (first | apply Kd.R_alloc | apply Kd.R_drewN | apply Kd.R_drew)); exact HO_5.out))) (Kd.R_lt (by (with_reducible repeat (first | apply Kd.R_alloc | apply Kd.R_drewN | apply Kd.R_drew)); exact HO_6.out))) (below_size (by repeat (first | (with_reducible first | exact HB.out | apply below_alloc | apply pw_below_drewN | apply below_drew1) | exact HB.out)))); have n3_ := Aside0.mk (below_step (by repeat (first | (with_reducible first | exact HB.out | apply below_alloc | apply pw_below_drewN | apply below_drew1) | exact HB.out)) hb); clear HO_5; clear HO_6; clear HB; have HO_5 := n0_; have HO_6 := n1_; have HO124 := n2_; have HB := n3_; clear n0_ n1_ n2_ n3_; clear hb ho26; obtain ⟨Ao27, co27, eo27⟩ := Kd.R_slice HO124.out; subst eo27) | ((with_reducible refine gate_callee (f := 19) rfl ?_); refine goesL_ (some 45) rfl rfl Try.func19 (by kernel_rfl) rfl #[.slice Ao27 y122.length co27, .int .i64 ji17] rfl (by (try simp only [List.map_toArray, List.map_cons, List.map_nil]); first | done | (simp only [hji17]; rfl) | rfl | (simp only [List.length_drop, List.length_take]; rfl)) ?_; (with_reducible refine (slices_Repeat_int_int.calls _ _ y122 ji17 t125 _ ?side1 ?side2 A20.out).mono ?_); (case side1 => repeat (first | exact (Kd.R_reads' HO124.out).2.2 | (with_reducible refine Kd.C_alloc ?_ _) | (with_reducible refine Kd.C_drewN ?_ _) | (with_reducible refine Kd.C_drew ?_))); (case side2 => exact (Kd.R_reads' HO124.out).2.1); rintro e w28 ⟨v126, rfl, ho0, hb⟩; refine ⟨_, rfl, ?_⟩; have n0_ := Aside0.mk (Kd.R_elder' (by (with_reducible repeat (first | apply Kd.R_alloc | apply Kd.R_drewN | apply Kd.R_drew)); exact HO_5.out) (Kd.R_base ho0) hb); have n1_ := Aside0.mk (Kd.R_elder' (by (with_reducible repeat (first | apply Kd.R_alloc | apply Kd.R_drewN | apply Kd.R_drew)); exact HO_6.out) (Kd.R_base ho0) hb); have n2_ := Aside0.mk (Kd.R_elder' (by (with_reducible repeat (first | apply Kd.R_alloc | apply Kd.R_drewN | apply Kd.R_drew)); exact HO124.out) (Kd.R_base ho0) hb); have n3_ := Aside0.mk (Kd.R_lower (Kd.R_new' (Kd.R_new' (Kd.R_new' ho0 (Kd.R_lt (by (with_reducible repeat (first | apply Kd.R_alloc | apply Kd.R_drewN | apply Kd.R_drew)); exact HO_5.out))) (Kd.R_lt (by (with_reducible repeat (first | apply Kd.R_alloc | apply Kd.R_drewN | apply Kd.R_drew)); exact HO_6.out))) (Kd.R_lt (by (with_reducible repeat (first | apply Kd.R_alloc | apply Kd.R_drewN | apply Kd.R_drew)); exact HO124.out))) (below_size (by repeat (first | (with_reducible first | exact HB.out | apply below_alloc | apply pw_below_drewN | apply below_drew1) | exact HB.out)))); have n4_ := Aside0.mk (below_step (by repeat (first | (with_reducible first | exact HB.out | apply below_alloc | apply pw_below_drewN | apply below_drew1) | exact HB.out)) hb); clear HO_5; clear HO_6; clear HO124; clear HB; have HO_5 := n0_; have HO_6 := n1_; have HO124 := n2_; have HO127 := n3_; have HB := n4_; clear n0_ n1_ n2_ n3_ n4_; (try clear hb); (try clear hb2); (try clear hk); (try clear hi); (try clear ho0); obtain ⟨Ao30, co30, eo30⟩ := Kd.R_slice HO127.out; subst eo30) | ((with_reducible refine gate_builtin (b := .append) (xs := #[.tmp 41, .tmp 45]) rfl ?_); at_builtin; refine Kd.R_append_rows (Kd.int .i64) (w0 := w) w.heap.size rfl (.tmp 41) (.tmp 45) 23 3 (.int .i64 0) 8 rfl Try.underlying23 info3 rfl (by decide) (by omega) u6 x6_2 t125 _ _ _ (fun k_ => some k_ ≠ (.slice (some ⟨go19, 0, none⟩) x5_2.length co11 : Value).ownBlock ∧ some k_ ≠ (.slice Ao27 y122.length co27 : Value).ownBlock ∧ some k_ ≠ (.slice Ao30 t125.length co30 : Value).ownBlock) (fun _ => False) rfl rfl ?aO ?aR (fun _ _ h => h) (fun _ h => h.elim) ?aF ?aB ?aS ?aL ?_; (case aR => repeat (first | exact (Kd.R_reads' HO127.out).2.2 | (with_reducible refine Kd.C_alloc ?_ _) | (with_reducible refine Kd.C_drewN ?_ _) | (with_reducible refine Kd.C_drew ?_))); (case aB => exact (by repeat (first | (with_reducible first | exact HB.out | apply below_alloc | apply pw_below_drewN | apply below_drew1) | exact HB.out))); (case aF => exact (fun k_ hk => ⟨Kd.fresh' (Kd.R_lt (by (with_reducible repeat (first | apply Kd.R_alloc | apply Kd.R_drewN | apply Kd.R_drew)); exact HO_5.out)) k_ hk, Kd.fresh' (Kd.R_lt (by (with_reducible repeat (first | apply Kd.R_alloc | apply Kd.R_drewN | apply Kd.R_drew)); exact HO124.out)) k_ hk, Kd.fresh' (Kd.R_lt (by (with_reducible repeat (first | apply Kd.R_alloc | apply Kd.R_drewN | apply Kd.R_drew)); exact HO127.out)) k_ hk⟩)); (case aO => exact (by (with_reducible repeat (first | apply Kd.R_alloc | apply Kd.R_drewN | apply Kd.R_drew)); exact Kd.R_mono HO_6.out (fun _ hk => ⟨hk.1.1.2, ⟨hk.1.2, hk.2⟩⟩))); (case aS => exact (below_size (by repeat (first | (with_reducible first | exact HB.out | apply below_alloc | apply pw_below_drewN | apply below_drew1) | exact HB.out)))); (case aL => have := LMc21.out; omega); intro v129 w29 ho hb hg hat; rw [← Ny128.out] at ho; have n0_ := Aside0.mk (Kd.R_after (ok := (fun k_ => some k_ ≠ (.slice Ao27 y122.length co27 : Value).ownBlock ∧ some k_ ≠ (.slice Ao30 t125.length co30 : Value).ownBlock)) (by (with_reducible repeat (first | apply Kd.R_alloc | apply Kd.R_drewN | apply Kd.R_drew)); exact Kd.R_mono HO_5.out (fun _ hk => ⟨⟨hk.1.2, hk.2⟩, hk.1.1⟩)) hg hat); have n1_ := Aside0.mk (Kd.R_after (ok := (fun k_ => some k_ ≠ (.slice (some ⟨go19, 0, none⟩) x5_2.length co11 : Value).ownBlock ∧ some k_ ≠ (.slice Ao30 t125.length co30 : Value).ownBlock)) (by (with_reducible repeat (first | apply Kd.R_alloc | apply Kd.R_drewN | apply Kd.R_drew)); exact Kd.R_mono HO124.out (fun _ hk => ⟨⟨hk.1.1.2, hk.2⟩, hk.1.2⟩)) hg hat); have n2_ := Aside0.mk (Kd.R_after (ok := (fun k_ => some k_ ≠ (.slice (some ⟨go19, 0, none⟩) x5_2.length co11 : Value).ownBlock ∧ some k_ ≠ (.slice Ao27 y122.length co27 : Value).ownBlock)) (by (with_reducible repeat (first | apply Kd.R_alloc | apply Kd.R_drewN | apply Kd.R_drew)); exact Kd.R_mono HO127.out (fun _ hk => ⟨⟨hk.1.1.2, hk.2⟩, hk.1.2⟩)) hg hat); have n3_ := Aside0.mk (hb); have n4_ := Aside0.mk (ho); clear HO_5; clear HO124; clear HO127; clear HB; clear HO_6; have HO_5 := n0_; have HO124 := n1_; have HO127 := n2_; have HB := n3_; have HO130 := n4_; clear n0_ n1_ n2_ n3_ n4_; clear ho hb hg hat))
                        (try simp only [← hl5_2])
                        go_roundg k2
                        case measure => have := HK1.out; have := HK2.out; omega
                        case rel => exact ⟨(y121), (y128), (true), (wrap64 (x21_2 + 1)), (by first | rfl | (simp; done) | (simp [*]; done)), (by first | rfl | (simp; done) | (simp [*]; done)), H', ⟨by have := HK1.out; have := HK2.out; omega⟩, ⟨by (try simp only [hl5_2]); (with_reducible repeat (first | apply Kd.R_alloc | apply Kd.R_drewN | apply Kd.R_drew)); exact Kd.R_mono HO_5.out (fun _ hk => hk.2)⟩, ⟨by (try simp only [hl5_2]); (with_reducible repeat (first | apply Kd.R_alloc | apply Kd.R_drewN | apply Kd.R_drew)); exact Kd.R_mono HO130.out (fun _ hk => hk.1)⟩, ⟨by repeat (first | (with_reducible first | exact HB.out | apply below_alloc | apply pw_below_drewN | apply below_drew1) | exact HB.out)⟩⟩
                      · replace c22 := Bool.eq_false_iff.mpr c22
                        subst c22
                        have H1 : (turns_Plan.l1 k2 ji8 y121 y128 (decide ((ji17) > 0)) (x5_1.length : Int) (wrap64 (x21_2 + 1))) = some r := by rw [if_neg (show ¬ (false = true) by decide)] at H; exact H
                        clear H
                        have H := H1
                        clear H1
                        have H' := Aside0.mk H
                        clear H
                        have p119 : 0 ≤ (x21_2 : Int) := of_decide_eq_true (by first | (with_reducible assumption) | assumption)
                        have q119 : x21_2 < (x5_2.length : Int) := of_decide_eq_true (by first | (with_reducible assumption) | assumption)
                        obtain ⟨ad119, e119, hx119_0⟩ := Kd.at_int (Kd.R_reads' HO_5.out).2.2 x21_2 p119 q119
                        cases e119
                        replace p119 := eq_true p119
                        replace q119 := eq_true q119
                        have p120 : 0 ≤ (x21_2 : Int) := of_decide_eq_true (by first | (with_reducible assumption) | assumption)
                        have q120 : x21_2 < (x5_2.length : Int) := of_decide_eq_true (by first | (with_reducible assumption) | assumption)
                        obtain ⟨ad120, e120, hx120_0⟩ := Kd.at_int (Kd.R_reads' HO_5.out).2.2 x21_2 p120 q120
                        obtain rfl : ad119 = ad120 := (by injection e120)
                        replace p120 := eq_true p120
                        replace q120 := eq_true q120
                        have p19 : 0 ≤ (x21_2 : Int) := of_decide_eq_true (by first | (with_reducible assumption) | assumption)
                        have q19 : (x21_2 : Int) < ((x5_2.length : Int) : Int) := of_decide_eq_true (by first | (with_reducible assumption) | assumption)
                        obtain ⟨go19, co19, eo19, gb19, gl19, cl19, HG19⟩ := Kd.R_form HO_5.out (by omega)
                        (first | cases eo19 | (injection eo19 with ea_ en_ ec_; (first | subst ea_ | (injection ea_ with ea_; subst ea_)); subst ec_; clear en_))
                        have GB19 := Aside0.mk gb19
                        have GG19 := Aside0.mk HG19
                        clear gb19 gl19 HG19
                        (first | simp only [add_plain] at hx119_0 | skip)
                        (first | simp only [add_plain] at hx120_0 | skip)
                        obtain ⟨hx19_0, hf19_0⟩ := Kd.R_celln 0 HO_5.out (x21_2 : Int) p19 q19
                        replace p19 := eq_true p19
                        replace q19 := eq_true q19
                        have HP31 := Kd.R_putg HO_5.out (x21_2 : Int) (wrap64 ((ji18) - (ji17)))
                        go_wp2_with (first | ((with_reducible refine gate_store (t := 3) (p := 40) rfl ?_); refine store_event (t := 3) (p := 40) (v := ?vo_w32) (w1 := (wr.setCell ⟨go19, (x21_2 : Int).toNat, none⟩ (.int .i64 (wrap64 ((ji18) - (ji17)))))) ?hg ?ho ?hn ?hr ?_; (case ho => rfl); (case hg => rfl); (case hn => rfl); (case hr => first | (go_simp; done) | (go_simp; rfl)); intro w32 hw; have hg : wr.grownBy w32 (some go19) := (by rw [hw]; exact HP31.2); have hp_ : Kd.R (Kd.int .i64) 3 w32 w.heap.size (fun k_ => some k_ ≠ (u6 : Value).ownBlock) (.slice (some ⟨go19, 0, none⟩) x5_2.length co11) y121 := (by rw [hw, Ny121.out]; exact HP31.1); clear HP31; have n0_ := Aside0.mk (hp_); have n1_ := Aside0.mk (Kd.R_after (v := (.slice (some ⟨go19, 0, none⟩) x5_2.length co11)) (v1 := (.slice (some ⟨go19, 0, none⟩) x5_2.length co11)) (ok := (fun _ => True)) (by (with_reducible repeat (first | apply Kd.R_alloc | apply Kd.R_drewN | apply Kd.R_drew)); exact Kd.R_mono HO_6.out (fun _ hk => ⟨trivial, hk⟩)) hg (.inl rfl)); have n2_ := Aside0.mk ((by rw [hw]; exact below_set (HB.out) GB19.out : Below w.heap.size w w32)); clear HO_5; clear HO_6; clear HB; have HO_5 := n0_; have HO_6 := n1_; have HB := n2_; clear n0_ n1_ n2_; clear hg hw hp_) | ((with_reducible refine gate_dst (N := 43) rfl ?_); refine Kd.R_lit (Kd.int .i64) _ 3 ?hg (N := 43) ?hd (xs := ([x21_2] : List Int)) (inner := [.int .i64 x21_2]) (ok := fun _ => True) (okp := fun _ => True) ?hr ?hp (fun _ hk => hk) trivial (Below.refl _ _) (Nat.le_refl _) (by simp) ?_; (case hd => rfl); (case hg => rfl); (case hr => first | (go_simp; done) | (go_simp; rfl)); (case hp => exact (Reps.one (show Kd.M (Kd.int .i64) _ _ _ x21_2 [.int .i64 x21_2] from rfl) (Reps.none _ _))); intro v123 w33 ho34 hb hg_ hnew_; clear hg_ hnew_; (first | rw [← Ny122.out] at ho34 | (simp only [Int.reduceToNat] at ho34; rw [← Ny122.out] at ho34)); have n0_ := Aside0.mk (Kd.R_elder' (by (with_reducible repeat (first | apply Kd.R_alloc | apply Kd.R_drewN | apply Kd.R_drew)); exact HO_5.out) (Kd.R_base ho34) hb); have n1_ := Aside0.mk (Kd.R_elder' (by (with_reducible repeat (first | apply Kd.R_alloc | apply Kd.R_drewN | apply Kd.R_drew)); exact HO_6.out) (Kd.R_base ho34) hb); have n2_ := Aside0.mk (Kd.R_lower (Kd.R_new' (Kd.R_new' ho34 (Kd.R_lt (by (with_reducible repeat (first | apply Kd.R_alloc | apply Kd.R_drewN | apply Kd.R_drew)); exact HO_5.out))) (Kd.R_lt (by (with_reducible repeat (first | apply Kd.R_alloc | apply Kd.R_drewN | apply Kd.R_drew)); exact HO_6.out))) (below_size (by repeat (first | (with_reducible first | exact HB.out | apply below_alloc | apply pw_below_drewN | apply below_drew1) | exact HB.out)))); have n3_ := Aside0.mk (below_step (by repeat (first | (with_reducible first | exact HB.out | apply below_alloc | apply pw_below_drewN | apply below_drew1) | exact HB.out)) hb); clear HO_5; clear HO_6; clear HB; have HO_5 := n0_; have HO_6 := n1_; have HO124 := n2_; have HB := n3_; clear n0_ n1_ n2_ n3_; clear hb ho34; obtain ⟨Ao35, co35, eo35⟩ := Kd.R_slice HO124.out; subst eo35) | ((with_reducible refine gate_callee (f := 19) rfl ?_); refine goesL_ (some 45) rfl rfl Try.func19 (by kernel_rfl) rfl #[.slice Ao35 y122.length co35, .int .i64 ji17] rfl (by (try simp only [List.map_toArray, List.map_cons, List.map_nil]); first | done | (simp only [hji17]; rfl) | rfl | (simp only [List.length_drop, List.length_take]; rfl)) ?_; (with_reducible refine (slices_Repeat_int_int.calls _ _ y122 ji17 t125 _ ?side1 ?side2 A20.out).mono ?_); (case side1 => repeat (first | exact (Kd.R_reads' HO124.out).2.2 | (with_reducible refine Kd.C_alloc ?_ _) | (with_reducible refine Kd.C_drewN ?_ _) | (with_reducible refine Kd.C_drew ?_))); (case side2 => exact (Kd.R_reads' HO124.out).2.1); rintro e w36 ⟨v126, rfl, ho0, hb⟩; refine ⟨_, rfl, ?_⟩; have n0_ := Aside0.mk (Kd.R_elder' (by (with_reducible repeat (first | apply Kd.R_alloc | apply Kd.R_drewN | apply Kd.R_drew)); exact HO_5.out) (Kd.R_base ho0) hb); have n1_ := Aside0.mk (Kd.R_elder' (by (with_reducible repeat (first | apply Kd.R_alloc | apply Kd.R_drewN | apply Kd.R_drew)); exact HO_6.out) (Kd.R_base ho0) hb); have n2_ := Aside0.mk (Kd.R_elder' (by (with_reducible repeat (first | apply Kd.R_alloc | apply Kd.R_drewN | apply Kd.R_drew)); exact HO124.out) (Kd.R_base ho0) hb); have n3_ := Aside0.mk (Kd.R_lower (Kd.R_new' (Kd.R_new' (Kd.R_new' ho0 (Kd.R_lt (by (with_reducible repeat (first | apply Kd.R_alloc | apply Kd.R_drewN | apply Kd.R_drew)); exact HO_5.out))) (Kd.R_lt (by (with_reducible repeat (first | apply Kd.R_alloc | apply Kd.R_drewN | apply Kd.R_drew)); exact HO_6.out))) (Kd.R_lt (by (with_reducible repeat (first | apply Kd.R_alloc | apply Kd.R_drewN | apply Kd.R_drew)); exact HO124.out))) (below_size (by repeat (first | (with_reducible first | exact HB.out | apply below_alloc | apply pw_below_drewN | apply below_drew1) | exact HB.out)))); have n4_ := Aside0.mk (below_step (by repeat (first | (with_reducible first | exact HB.out | apply below_alloc | apply pw_below_drewN | apply below_drew1) | exact HB.out)) hb); clear HO_5; clear HO_6; clear HO124; clear HB; have HO_5 := n0_; have HO_6 := n1_; have HO124 := n2_; have HO127 := n3_; have HB := n4_; clear n0_ n1_ n2_ n3_ n4_; (try clear hb); (try clear hb2); (try clear hk); (try clear hi); (try clear ho0); obtain ⟨Ao38, co38, eo38⟩ := Kd.R_slice HO127.out; subst eo38) | ((with_reducible refine gate_builtin (b := .append) (xs := #[.tmp 41, .tmp 45]) rfl ?_); at_builtin; refine Kd.R_append_rows (Kd.int .i64) (w0 := w) w.heap.size rfl (.tmp 41) (.tmp 45) 23 3 (.int .i64 0) 8 rfl Try.underlying23 info3 rfl (by decide) (by omega) u6 x6_2 t125 _ _ _ (fun k_ => some k_ ≠ (.slice (some ⟨go19, 0, none⟩) x5_2.length co11 : Value).ownBlock ∧ some k_ ≠ (.slice Ao35 y122.length co35 : Value).ownBlock ∧ some k_ ≠ (.slice Ao38 t125.length co38 : Value).ownBlock) (fun _ => False) rfl rfl ?aO ?aR (fun _ _ h => h) (fun _ h => h.elim) ?aF ?aB ?aS ?aL ?_; (case aR => repeat (first | exact (Kd.R_reads' HO127.out).2.2 | (with_reducible refine Kd.C_alloc ?_ _) | (with_reducible refine Kd.C_drewN ?_ _) | (with_reducible refine Kd.C_drew ?_))); (case aB => exact (by repeat (first | (with_reducible first | exact HB.out | apply below_alloc | apply pw_below_drewN | apply below_drew1) | exact HB.out))); (case aF => exact (fun k_ hk => ⟨Kd.fresh' (Kd.R_lt (by (with_reducible repeat (first | apply Kd.R_alloc | apply Kd.R_drewN | apply Kd.R_drew)); exact HO_5.out)) k_ hk, Kd.fresh' (Kd.R_lt (by (with_reducible repeat (first | apply Kd.R_alloc | apply Kd.R_drewN | apply Kd.R_drew)); exact HO124.out)) k_ hk, Kd.fresh' (Kd.R_lt (by (with_reducible repeat (first | apply Kd.R_alloc | apply Kd.R_drewN | apply Kd.R_drew)); exact HO127.out)) k_ hk⟩)); (case aO => exact (by (with_reducible repeat (first | apply Kd.R_alloc | apply Kd.R_drewN | apply Kd.R_drew)); exact Kd.R_mono HO_6.out (fun _ hk => ⟨hk.1.1.2, ⟨hk.1.2, hk.2⟩⟩))); (case aS => exact (below_size (by repeat (first | (with_reducible first | exact HB.out | apply below_alloc | apply pw_below_drewN | apply below_drew1) | exact HB.out)))); (case aL => have := LMc21.out; omega); intro v129 w37 ho hb hg hat; rw [← Ny128.out] at ho; have n0_ := Aside0.mk (Kd.R_after (ok := (fun k_ => some k_ ≠ (.slice Ao35 y122.length co35 : Value).ownBlock ∧ some k_ ≠ (.slice Ao38 t125.length co38 : Value).ownBlock)) (by (with_reducible repeat (first | apply Kd.R_alloc | apply Kd.R_drewN | apply Kd.R_drew)); exact Kd.R_mono HO_5.out (fun _ hk => ⟨⟨hk.1.2, hk.2⟩, hk.1.1⟩)) hg hat); have n1_ := Aside0.mk (Kd.R_after (ok := (fun k_ => some k_ ≠ (.slice (some ⟨go19, 0, none⟩) x5_2.length co11 : Value).ownBlock ∧ some k_ ≠ (.slice Ao38 t125.length co38 : Value).ownBlock)) (by (with_reducible repeat (first | apply Kd.R_alloc | apply Kd.R_drewN | apply Kd.R_drew)); exact Kd.R_mono HO124.out (fun _ hk => ⟨⟨hk.1.1.2, hk.2⟩, hk.1.2⟩)) hg hat); have n2_ := Aside0.mk (Kd.R_after (ok := (fun k_ => some k_ ≠ (.slice (some ⟨go19, 0, none⟩) x5_2.length co11 : Value).ownBlock ∧ some k_ ≠ (.slice Ao35 y122.length co35 : Value).ownBlock)) (by (with_reducible repeat (first | apply Kd.R_alloc | apply Kd.R_drewN | apply Kd.R_drew)); exact Kd.R_mono HO127.out (fun _ hk => ⟨⟨hk.1.1.2, hk.2⟩, hk.1.2⟩)) hg hat); have n3_ := Aside0.mk (hb); have n4_ := Aside0.mk (ho); clear HO_5; clear HO124; clear HO127; clear HB; clear HO_6; have HO_5 := n0_; have HO124 := n1_; have HO127 := n2_; have HB := n3_; have HO130 := n4_; clear n0_ n1_ n2_ n3_ n4_; clear ho hb hg hat))
                        (try simp only [← hl5_2])
                        go_roundg k2
                        case measure => have := HK1.out; have := HK2.out; omega
                        case rel => exact ⟨(y121), (y128), (decide ((ji17) > 0)), (wrap64 (x21_2 + 1)), (by first | rfl | (simp; done) | (simp only [← hji17] <;> (first | rfl | simp)) | (simp [*]; done)), (by first | rfl | (simp; done) | (simp [*]; done)), H', ⟨by have := HK1.out; have := HK2.out; omega⟩, ⟨by (try simp only [hl5_2]); (with_reducible repeat (first | apply Kd.R_alloc | apply Kd.R_drewN | apply Kd.R_drew)); exact Kd.R_mono HO_5.out (fun _ hk => hk.2)⟩, ⟨by (try simp only [hl5_2]); (with_reducible repeat (first | apply Kd.R_alloc | apply Kd.R_drewN | apply Kd.R_drew)); exact Kd.R_mono HO130.out (fun _ hk => hk.1)⟩, ⟨by repeat (first | (with_reducible first | exact HB.out | apply below_alloc | apply pw_below_drewN | apply below_drew1) | exact HB.out)⟩⟩
                    · rw [if_neg c21] at H
                      exact absurd H (by simp)
                  · rw [if_neg c14] at H
                    exact absurd H (by simp)
                · rw [if_neg c13] at H
                  exact absurd H (by simp)
              · rw [if_neg c12] at H
                have c12b0 : decide (x21_2 < (x5_1.length : Int)) = false := decide_eq_false c12
                (try (have c12b2 := c12b0; simp only [hl5_2] at c12b2))
                clear c12
                by_cases c39 : x7_2 = true
                · subst c39
                  have H1 : (turns_Plan.l0 k2 ji8 x5_2 x6_2) = some r := by rw [if_pos rfl] at H; exact H
                  clear H
                  have H := H1
                  clear H1
                  have H' := Aside0.mk H
                  clear H
                  go_wp2
                  (try simp only [← hl5_2])
                  go_roundg k2
                  case measure => have := HK1.out; have := HK2.out; omega
                  case rel => exact ⟨(x5_2), (x6_2), H', ⟨by have := HK1.out; have := HK2.out; omega⟩, ⟨by (try simp only [hl5_2]); (with_reducible repeat (first | apply Kd.R_alloc | apply Kd.R_drewN | apply Kd.R_drew)); exact HO_5.out⟩, ⟨by (try simp only [hl5_2]); (with_reducible repeat (first | apply Kd.R_alloc | apply Kd.R_drewN | apply Kd.R_drew)); exact HO_6.out⟩, ⟨by repeat (first | (with_reducible first | exact HB.out | apply below_alloc | apply pw_below_drewN | apply below_drew1) | exact HB.out)⟩⟩
                · replace c39 := Bool.eq_false_iff.mpr c39
                  subst c39
                  have H1 : (some x6_2) = some r := by rw [if_neg (show ¬ (false = true) by decide)] at H; exact H
                  clear H
                  have H := H1
                  clear H1
                  obtain rfl := Option.some.inj H
                  go_wp2
                  go_ret
                  exact ⟨_, by first | rfl | (simp [errW_none, errW_some] <;> rfl) | (simp only [← hji3, ← hji7, ← hji8]; first | rfl | (simp [errW_none, errW_some] <;> rfl)) | (simp [*, errW_none, errW_some] <;> rfl), by (with_reducible repeat (first | apply Kd.R_alloc | apply Kd.R_drewN | apply Kd.R_drew)); exact Kd.R_mono HO_6.out (fun _ hk => trivial), by repeat (first | (with_reducible first | exact HB.out | apply below_alloc | apply pw_below_drewN | apply below_drew1) | exact HB.out)⟩
    · rw [if_neg c5] at H
      exact absurd H (by simp)
  · rw [if_neg c4] at H
    exact absurd H (by simp)

/-! ### turns_Counts: function 14 -/
def turns_Counts.l0 : Nat → List Int → List Int → Int → Int → Option (List Int)
  | 0, _, _, _, _ => none
  | k + 1, x5, x12, x13, x14 => if x14 < x13 then (if 0 ≤ x14 then (if x14 < (x12.length : Int) then (if (rd x12 x14) ≥ 0 then (if (rd x12 x14) < (x5.length : Int) then (if 0 ≤ (rd x12 x14) then (turns_Counts.l0 k (x5.set ((rd x12 x14) : Int).toNat (wrap64 ((rd x5 (rd x12 x14)) + 1))) x12 x13 (wrap64 (x14 + 1))) else (none)) else (turns_Counts.l0 k x5 x12 x13 (wrap64 (x14 + 1)))) else (turns_Counts.l0 k x5 x12 x13 (wrap64 (x14 + 1)))) else (none)) else (none)) else (some x5)
def turns_Counts.f (k : Nat) (l0 : List Int) (a1 : Int) : Option (List Int) := if 0 ≤ (mn (mx a1 0) 64) then (if (mn (mx a1 0) 64 : Int).toNat ≤ 35184372088832 then (turns_Counts.l0 k (List.replicate (mn (mx a1 0) 64 : Int).toNat 0) l0 (l0.length : Int) 0) else (none)) else (none)
theorem turns_Counts.mono_l : ∀ k, (∀ y0 y1 y2 y3, LeO (turns_Counts.l0 k y0 y1 y2 y3) (turns_Counts.l0 (k + 1) y0 y1 y2 y3))
  | 0 => fun _ _ _ _ r h => by simp [turns_Counts.l0] at h
  | k + 1 => by
    have ih0 := turns_Counts.mono_l k
    · intro y0 y1 y2 y3
      unfold turns_Counts.l0
      repeat' first
      | (with_reducible exact ih0 _ _ _ _)
      | (with_reducible exact LeO.refl _)
      | (with_reducible exact LeO.none _)
      | (with_reducible refine LeO.ite ?_ ?_)
      | (with_reducible refine LeO.bind ?_ (fun _ => ?_))
      | exact ih0 _ _ _ _
      | exact LeO.none _
      | refine LeO.ite ?_ ?_
      | refine LeO.bind ?_ (fun _ => ?_)
theorem turns_Counts.mono : ∀ a0 a1 k, LeO (turns_Counts.f k a0 a1) (turns_Counts.f (k + 1) a0 a1) := by
  intro a0 a1 k
  have ih0 := turns_Counts.mono_l k
  unfold turns_Counts.f
  repeat' first
      | (with_reducible exact ih0 _ _ _ _)
      | (with_reducible exact LeO.refl _)
      | (with_reducible exact LeO.none _)
      | (with_reducible refine LeO.ite ?_ ?_)
      | (with_reducible refine LeO.bind ?_ (fun _ => ?_))
      | exact ih0 _ _ _ _
      | exact LeO.none _
      | refine LeO.ite ?_ ?_
      | refine LeO.bind ?_ (fun _ => ?_)
set_option maxHeartbeats 8000000 in
set_option maxRecDepth 100000 in
theorem turns_Counts.calls (k : Nat) (A0 : Option Addr) (c0 : Nat) (l0 : List Int) (a1 : Int) (r : List Int) (w : World) (hr0 : Kd.C (Kd.int .i64) w A0 l0.length l0) (hc0 : l0.length ≤ c0) (h : turns_Counts.f k l0 a1 = some r) :
    Calls Try.prog 14 #[.slice A0 l0.length c0, .int .i64 a1] w fun e w' => ∃ v0_ : Value, e = .returned (v0_) ∧ Kd.R (Kd.int .i64) 3 w' w.heap.size (fun _ => True) v0_ r ∧ Below w.heap.size w w' := by
  have HR0 := Aside0.mk hr0
  have HC0 := Aside0.mk hc0
  clear hr0 hc0
  have HB := Aside0.mk (Below.refl w.heap.size w)
  have H : (if 0 ≤ (mn (mx a1 0) 64) then (if (mn (mx a1 0) 64 : Int).toNat ≤ 35184372088832 then (turns_Counts.l0 k (List.replicate (mn (mx a1 0) 64 : Int).toNat 0) l0 (l0.length : Int) 0) else (none)) else (none)) = some r := h
  clear h
  obtain ⟨ji3, hji3⟩ : ∃ j_ : Int, (mx a1 0) = j_ := ⟨_, rfl⟩
  replace H : (if 0 ≤ (mn (ji3) 64) then (if (mn (ji3) 64 : Int).toNat ≤ 35184372088832 then (turns_Counts.l0 k (List.replicate (mn (ji3) 64 : Int).toNat 0) l0 (l0.length : Int) 0) else (none)) else (none)) = some r := by first | (rw [hji3] at H; exact H) | (simp only [hji3] at H ⊢; exact H)
  (try (have hji3l : 0 ≤ ji3 := by (rw [← hji3]; unfold mx; (repeat' split) <;> omega)))
  (try (have hji3m : 0 ≤ ji3 := by omega))
  (try (have hji3x : max ji3 0 = ji3 := by omega))
  have hji3_ : (if a1 < 0 then 0 else a1) = ji3 := hji3
  obtain ⟨ji4, hji4⟩ : ∃ j_ : Int, (mn (ji3) 64) = j_ := ⟨_, rfl⟩
  replace H : (if 0 ≤ (ji4) then (if (ji4 : Int).toNat ≤ 35184372088832 then (turns_Counts.l0 k (List.replicate (ji4 : Int).toNat 0) l0 (l0.length : Int) 0) else (none)) else (none)) = some r := by first | (rw [hji4] at H; exact H) | (simp only [hji4] at H ⊢; exact H)
  have hji4_ : (if 64 < (ji3) then 64 else (ji3)) = ji4 := hji4
  by_cases c5 : 0 ≤ (ji4)
  · rw [if_pos c5] at H
    have c5b0 := eq_true c5
    have c5b1 : decide (0 ≤ (ji4)) = true := decide_eq_true c5
    clear c5
    by_cases c6 : (ji4 : Int).toNat ≤ 35184372088832
    · rw [if_pos c6] at H
      have c6b0 := eq_true c6
      have c6b1 : decide ((ji4 : Int).toNat ≤ 35184372088832) = true := decide_eq_true c6
      clear c6
      obtain ⟨y131, hy131⟩ : ∃ y_ : List Int, y_ = (List.replicate (ji4 : Int).toNat 0) := ⟨_, rfl⟩
      replace H : (turns_Counts.l0 k y131 l0 (l0.length : Int) 0) = some r := by first | (rw [hy131]; with_reducible exact H) | (have H2_ := (Option.bind_some _ _).symm.trans H; rw [hy131]; with_reducible exact H2_) | (have H2_ := (Option.bind_some _ _).symm.trans H; with_reducible exact H2_) | with_reducible exact H | (rw [hy131]; exact H) | exact H
      have Ny131 := Aside0.mk hy131
      clear hy131
      have H' := Aside0.mk H
      clear H
      go_enter Try.func14, Try.ntmps14
      go_wp2_with (first | ((with_reducible refine gate_dst (N := 11) rfl ?_); (try (refine gate_guard (by rfl) ?_; dsimp only)); refine Kd.R_make (Kd.int .i64) _ 3 rfl (N := 11) rfl 23 _ _ rfl ji4 (by first | rfl | exact congrArg (Value.int .i64) hji4) (by first | rfl | exact congrArg (Value.int .i64) hji4) Try.underlying23 (.int .i64 0) 8 info3 rfl (by decide) (by omega) 0 (ok := fun _ => True) (okp := fun _ => True) rfl (fun _ hk => hk) trivial (of_decide_eq_true (by first | (with_reducible assumption) | assumption)) (Nat.le_trans (Nat.mul_le_mul_right _ (of_decide_eq_true (by first | (with_reducible assumption) | assumption) : ji4.toNat ≤ 35184372088832)) (by omega)) (Below.refl _ _) (Nat.le_refl _) ?_; intro v132 w7 ho8 hb hg_ hnew_; clear hg_ hnew_; (first | rw [← Ny131.out] at ho8 | (simp only [Int.reduceToNat] at ho8; rw [← Ny131.out] at ho8)); have n0_ := Aside0.mk (Kd.R_lower ho8 (below_size (by repeat (first | (with_reducible first | exact HB.out | apply below_alloc | apply pw_below_drewN | apply below_drew1) | exact HB.out)))); have n1_ := Aside0.mk (below_step (by repeat (first | (with_reducible first | exact HB.out | apply below_alloc | apply pw_below_drewN | apply below_drew1) | exact HB.out)) hb); clear HB; have HO133 := n0_; have HB := n1_; clear n0_ n1_; clear hb ho8))
      go_loopg [14] k (fun kq v14 w' => ∃ (x5_1 : List Int) (x14_1 : Int), v14 = .int .i64 x14_1 ∧ Aside0 (turns_Counts.l0 kq x5_1 l0 (l0.length : Int) x14_1 = some r) ∧ Aside0 (kq ≤ k) ∧ Aside0 (Kd.R (Kd.int .i64) 3 w' w.heap.size (fun _ => True) v132 x5_1) ∧ Aside0 (Below w.heap.size w w'))
      case atStart => exact ⟨(y131), (0), (by first | rfl | (simp; done) | (simp [*]; done)), H', ⟨Nat.le_refl _⟩, ⟨by (with_reducible repeat (first | apply Kd.R_alloc | apply Kd.R_drewN | apply Kd.R_drew)); exact HO133.out⟩, ⟨by repeat (first | (with_reducible first | exact HB.out | apply below_alloc | apply pw_below_drewN | apply below_drew1) | exact HB.out)⟩⟩
      case round =>
        clear H'
        try clear c1
        try clear p2
        try clear c5
        try clear c5b0
        try clear c5b1
        try clear c6
        try clear c6b0
        try clear c6b1
        obtain ⟨x5_1, x14_1, rfl, HA, HK1, HO_5, HB⟩ := hrel
        cases gk with
        | zero => exact absurd HA.out (by simp [turns_Counts.l0])
        | succ k1 =>
          have H := HA.out
          clear HA
          simp only [turns_Counts.l0] at H
          by_cases c9 : x14_1 < (l0.length : Int)
          · rw [if_pos c9] at H
            have c9b0 : decide (x14_1 < (l0.length : Int)) = true := decide_eq_true c9
            clear c9
            by_cases c10 : 0 ≤ x14_1
            · rw [if_pos c10] at H
              have c10b0 : decide (0 ≤ x14_1) = true := decide_eq_true c10
              clear c10
              by_cases c11 : x14_1 < (l0.length : Int)
              · rw [if_pos c11] at H
                have c11b0 : decide (x14_1 < (l0.length : Int)) = true := decide_eq_true c11
                clear c11
                by_cases c12 : (rd l0 x14_1) ≥ 0
                · rw [if_pos c12] at H
                  have c12b0 : decide (0 ≤ (rd l0 x14_1)) = true := decide_eq_true c12
                  clear c12
                  by_cases c13 : (rd l0 x14_1) < (x5_1.length : Int)
                  · rw [if_pos c13] at H
                    have c13b0 : decide ((rd l0 x14_1) < (x5_1.length : Int)) = true := decide_eq_true c13
                    clear c13
                    by_cases c14 : 0 ≤ (rd l0 x14_1)
                    · rw [if_pos c14] at H
                      have c14b0 : decide (0 ≤ (rd l0 x14_1)) = true := decide_eq_true c14
                      clear c14
                      obtain ⟨y136, hy136⟩ : ∃ y_ : List Int, y_ = (x5_1.set ((rd l0 x14_1) : Int).toNat (wrap64 ((rd x5_1 (rd l0 x14_1)) + 1))) := ⟨_, rfl⟩
                      replace H : (turns_Counts.l0 k1 y136 l0 (l0.length : Int) (wrap64 (x14_1 + 1))) = some r := by first | (rw [hy136]; with_reducible exact H) | (have H2_ := (Option.bind_some _ _).symm.trans H; rw [hy136]; with_reducible exact H2_) | (have H2_ := (Option.bind_some _ _).symm.trans H; with_reducible exact H2_) | with_reducible exact H | (rw [hy136]; exact H) | exact H
                      have Ny136 := Aside0.mk hy136
                      clear hy136
                      have H' := Aside0.mk H
                      clear H
                      have p134 : 0 ≤ (x14_1 : Int) := of_decide_eq_true (by first | (with_reducible assumption) | assumption)
                      have q134 : x14_1 < (l0.length : Int) := of_decide_eq_true (by first | (with_reducible assumption) | assumption)
                      obtain ⟨ad134, e134, hx134_0⟩ := Kd.at_int HR0.out x14_1 p134 q134
                      cases e134
                      replace hx134_0 := (HB.out.cell (World.block_lt_of_cell? w _ hx134_0)).trans hx134_0
                      replace p134 := eq_true p134
                      replace q134 := eq_true q134
                      obtain ⟨Ao16, co16, eo16⟩ := Kd.R_slice HO_5.out
                      subst eo16
                      have p135 : 0 ≤ ((rd l0 x14_1) : Int) := of_decide_eq_true (by first | (with_reducible assumption) | assumption)
                      have q135 : (rd l0 x14_1) < (x5_1.length : Int) := of_decide_eq_true (by first | (with_reducible assumption) | assumption)
                      obtain ⟨ad135, e135, hx135_0⟩ := Kd.at_int (Kd.R_reads' HO_5.out).2.2 (rd l0 x14_1) p135 q135
                      cases e135
                      replace p135 := eq_true p135
                      replace q135 := eq_true q135
                      have p15 : 0 ≤ ((rd l0 x14_1) : Int) := of_decide_eq_true (by first | (with_reducible assumption) | assumption)
                      have q15 : ((rd l0 x14_1) : Int) < ((x5_1.length : Int) : Int) := of_decide_eq_true (by first | (with_reducible assumption) | assumption)
                      obtain ⟨go15, co15, eo15, gb15, gl15, cl15, HG15⟩ := Kd.R_form HO_5.out (by omega)
                      (first | cases eo15 | (injection eo15 with ea_ en_ ec_; (first | subst ea_ | (injection ea_ with ea_; subst ea_)); subst ec_; clear en_))
                      have GB15 := Aside0.mk gb15
                      have GG15 := Aside0.mk HG15
                      clear gb15 gl15 HG15
                      (first | simp only [add_plain] at hx135_0 | skip)
                      obtain ⟨hx15_0, hf15_0⟩ := Kd.R_celln 0 HO_5.out ((rd l0 x14_1) : Int) p15 q15
                      replace p15 := eq_true p15
                      replace q15 := eq_true q15
                      have HP17 := Kd.R_putg HO_5.out ((rd l0 x14_1) : Int) (wrap64 ((rd x5_1 (rd l0 x14_1)) + 1))
                      go_wp2_with (first | ((with_reducible refine gate_store (t := 3) (p := 31) rfl ?_); refine store_event (t := 3) (p := 31) (v := ?vo_w18) (w1 := (wr.setCell ⟨go15, ((rd l0 x14_1) : Int).toNat, none⟩ (.int .i64 (wrap64 ((rd x5_1 (rd l0 x14_1)) + 1))))) ?hg ?ho ?hn ?hr ?_; (case ho => rfl); (case hg => rfl); (case hn => rfl); (case hr => first | (go_simp; done) | (go_simp; rfl)); intro w18 hw; have hg : wr.grownBy w18 (some go15) := (by rw [hw]; exact HP17.2); have hp_ : Kd.R (Kd.int .i64) 3 w18 w.heap.size (fun _ => True) (.slice (some ⟨go15, 0, none⟩) x5_1.length co16) y136 := (by rw [hw, Ny136.out]; exact HP17.1); clear HP17; have n0_ := Aside0.mk (hp_); have n1_ := Aside0.mk ((by rw [hw]; exact below_set (HB.out) GB15.out : Below w.heap.size w w18)); clear HO_5; clear HB; have HO_5 := n0_; have HB := n1_; clear n0_ n1_; clear hg hw hp_))
                      go_roundg k1
                      case measure => have := HK1.out; omega
                      case rel => exact ⟨(y136), (wrap64 (x14_1 + 1)), (by first | rfl | (simp; done) | (simp [*]; done)), H', ⟨by have := HK1.out; omega⟩, ⟨by (with_reducible repeat (first | apply Kd.R_alloc | apply Kd.R_drewN | apply Kd.R_drew)); exact HO_5.out⟩, ⟨by repeat (first | (with_reducible first | exact HB.out | apply below_alloc | apply pw_below_drewN | apply below_drew1) | exact HB.out)⟩⟩
                    · rw [if_neg c14] at H
                      exact absurd H (by simp)
                  · rw [if_neg c13] at H
                    have c13b0 : decide ((rd l0 x14_1) < (x5_1.length : Int)) = false := decide_eq_false c13
                    clear c13
                    have H' := Aside0.mk H
                    clear H
                    have p134 : 0 ≤ (x14_1 : Int) := of_decide_eq_true (by first | (with_reducible assumption) | assumption)
                    have q134 : x14_1 < (l0.length : Int) := of_decide_eq_true (by first | (with_reducible assumption) | assumption)
                    obtain ⟨ad134, e134, hx134_0⟩ := Kd.at_int HR0.out x14_1 p134 q134
                    cases e134
                    replace hx134_0 := (HB.out.cell (World.block_lt_of_cell? w _ hx134_0)).trans hx134_0
                    replace p134 := eq_true p134
                    replace q134 := eq_true q134
                    obtain ⟨Ao19, co19, eo19⟩ := Kd.R_slice HO_5.out
                    subst eo19
                    go_wp2
                    go_roundg k1
                    case measure => have := HK1.out; omega
                    case rel => exact ⟨(x5_1), (wrap64 (x14_1 + 1)), (by first | rfl | (simp; done) | (simp [*]; done)), H', ⟨by have := HK1.out; omega⟩, ⟨by (with_reducible repeat (first | apply Kd.R_alloc | apply Kd.R_drewN | apply Kd.R_drew)); exact HO_5.out⟩, ⟨by repeat (first | (with_reducible first | exact HB.out | apply below_alloc | apply pw_below_drewN | apply below_drew1) | exact HB.out)⟩⟩
                · rw [if_neg c12] at H
                  have c12b0 : decide (0 ≤ (rd l0 x14_1)) = false := decide_eq_false c12
                  clear c12
                  have H' := Aside0.mk H
                  clear H
                  have p134 : 0 ≤ (x14_1 : Int) := of_decide_eq_true (by first | (with_reducible assumption) | assumption)
                  have q134 : x14_1 < (l0.length : Int) := of_decide_eq_true (by first | (with_reducible assumption) | assumption)
                  obtain ⟨ad134, e134, hx134_0⟩ := Kd.at_int HR0.out x14_1 p134 q134
                  cases e134
                  replace hx134_0 := (HB.out.cell (World.block_lt_of_cell? w _ hx134_0)).trans hx134_0
                  replace p134 := eq_true p134
                  replace q134 := eq_true q134
                  go_wp2
                  go_roundg k1
                  case measure => have := HK1.out; omega
                  case rel => exact ⟨(x5_1), (wrap64 (x14_1 + 1)), (by first | rfl | (simp; done) | (simp [*]; done)), H', ⟨by have := HK1.out; omega⟩, ⟨by (with_reducible repeat (first | apply Kd.R_alloc | apply Kd.R_drewN | apply Kd.R_drew)); exact HO_5.out⟩, ⟨by repeat (first | (with_reducible first | exact HB.out | apply below_alloc | apply pw_below_drewN | apply below_drew1) | exact HB.out)⟩⟩
              · rw [if_neg c11] at H
                exact absurd H (by simp)
            · rw [if_neg c10] at H
              exact absurd H (by simp)
          · rw [if_neg c9] at H
            have c9b0 : decide (x14_1 < (l0.length : Int)) = false := decide_eq_false c9
            clear c9
            obtain rfl := Option.some.inj H
            go_wp2
            go_ret
            exact ⟨_, by first | rfl | (simp [errW_none, errW_some] <;> rfl) | (simp only [← hji3, ← hji4]; first | rfl | (simp [errW_none, errW_some] <;> rfl)) | (simp [*, errW_none, errW_some] <;> rfl), by (with_reducible repeat (first | apply Kd.R_alloc | apply Kd.R_drewN | apply Kd.R_drew)); exact HO_5.out, by repeat (first | (with_reducible first | exact HB.out | apply below_alloc | apply pw_below_drewN | apply below_drew1) | exact HB.out)⟩
    · rw [if_neg c6] at H
      exact absurd H (by simp)
  · rw [if_neg c5] at H
    exact absurd H (by simp)

/-! ### slices_Max_int_int: function 20 -/
def slices_Max_int_int.l0 : Nat → List Int → Int → Int → Option (Int)
  | 0, _, _, _ => none
  | k + 1, x0, x3, x4 => if x4 < (x0.length : Int) then (if 0 ≤ x4 then (slices_Max_int_int.l0 k x0 (mx x3 (rd x0 x4)) (wrap64 (x4 + 1))) else (none)) else (some x3)
def slices_Max_int_int.f (k : Nat) (l0 : List Int) : Option (Int) := if (l0.length : Int) < 1 then (none) else (if 0 < (l0.length : Int) then (slices_Max_int_int.l0 k l0 (rd l0 0) 1) else (none))
theorem slices_Max_int_int.mono_l : ∀ k, (∀ y0 y1 y2, LeO (slices_Max_int_int.l0 k y0 y1 y2) (slices_Max_int_int.l0 (k + 1) y0 y1 y2))
  | 0 => fun _ _ _ r h => by simp [slices_Max_int_int.l0] at h
  | k + 1 => by
    have ih0 := slices_Max_int_int.mono_l k
    · intro y0 y1 y2
      unfold slices_Max_int_int.l0
      repeat' first
      | (with_reducible exact ih0 _ _ _)
      | (with_reducible exact LeO.refl _)
      | (with_reducible exact LeO.none _)
      | (with_reducible refine LeO.ite ?_ ?_)
      | (with_reducible refine LeO.bind ?_ (fun _ => ?_))
      | exact ih0 _ _ _
      | exact LeO.none _
      | refine LeO.ite ?_ ?_
      | refine LeO.bind ?_ (fun _ => ?_)
theorem slices_Max_int_int.mono : ∀ a0 k, LeO (slices_Max_int_int.f k a0) (slices_Max_int_int.f (k + 1) a0) := by
  intro a0 k
  have ih0 := slices_Max_int_int.mono_l k
  unfold slices_Max_int_int.f
  repeat' first
      | (with_reducible exact ih0 _ _ _)
      | (with_reducible exact LeO.refl _)
      | (with_reducible exact LeO.none _)
      | (with_reducible refine LeO.ite ?_ ?_)
      | (with_reducible refine LeO.bind ?_ (fun _ => ?_))
      | exact ih0 _ _ _
      | exact LeO.none _
      | refine LeO.ite ?_ ?_
      | refine LeO.bind ?_ (fun _ => ?_)
set_option maxHeartbeats 8000000 in
set_option maxRecDepth 100000 in
theorem slices_Max_int_int.calls (k : Nat) (A0 : Option Addr) (c0 : Nat) (l0 : List Int) (r : Int) (w : World) (hr0 : Kd.C (Kd.int .i64) w A0 l0.length l0) (hc0 : l0.length ≤ c0) (h : slices_Max_int_int.f k l0 = some r) :
    Calls Try.prog 20 #[.slice A0 l0.length c0] w fun e w' => e = .returned (.int .i64 r) ∧ Below w.heap.size w w' := by
  have HR0 := Aside0.mk hr0
  have HC0 := Aside0.mk hc0
  clear hr0 hc0
  have HB := Aside0.mk (Below.refl w.heap.size w)
  have H : (if (l0.length : Int) < 1 then (none) else (if 0 < (l0.length : Int) then (slices_Max_int_int.l0 k l0 (rd l0 0) 1) else (none))) = some r := h
  clear h
  by_cases c2 : (l0.length : Int) < 1
  · rw [if_pos c2] at H
    exact absurd H (by simp)
  · rw [if_neg c2] at H
    have c2b0 : decide ((l0.length : Int) < 1) = false := decide_eq_false c2
    have c2b1 : decide (l0.length < 1) = false := decide_eq_false (by omega)
    clear c2
    by_cases c3 : 0 < (l0.length : Int)
    · rw [if_pos c3] at H
      have c3b0 : decide (0 < (l0.length : Int)) = true := decide_eq_true c3
      have c3b1 : decide (0 < l0.length) = true := decide_eq_true (by omega)
      clear c3
      have H' := Aside0.mk H
      clear H
      have p137 : 0 ≤ (0 : Int) := (by omega)
      have q137 : 0 < (l0.length : Int) := of_decide_eq_true (by first | (with_reducible assumption) | assumption)
      obtain ⟨ad137, e137, hx137_0⟩ := Kd.at_int HR0.out 0 p137 q137
      cases e137
      have qi137 : (0 < l0.length) = True := eq_true (by omega)
      (try rw [show ((0 : Int)).toNat = 0 from rfl] at hx137_0)
      (try rw [Addr.add_zero'] at hx137_0)
      replace p137 := eq_true p137
      replace q137 := eq_true q137
      go_enter Try.func20, Try.ntmps20
      go_wp2
      go_loopg [3, 4] k (fun kq v3 v4 w' => ∃ (x3_1 : Int) (x4_1 : Int), v3 = .int .i64 x3_1 ∧ v4 = .int .i64 x4_1 ∧ Aside0 (slices_Max_int_int.l0 kq l0 x3_1 x4_1 = some r) ∧ Aside0 (kq ≤ k) ∧ Aside0 (Below w.heap.size w w'))
      case atStart => exact ⟨(rd l0 0), (1), (by first | rfl | (simp; done) | (simp [*]; done)), (by first | rfl | (simp; done) | (simp [*]; done)), H', ⟨Nat.le_refl _⟩, ⟨by repeat (first | (with_reducible first | exact HB.out | apply below_alloc | apply pw_below_drewN | apply below_drew1) | exact HB.out)⟩⟩
      case round =>
        clear H'
        try clear p1
        try clear q1
        try clear hx1
        try clear qi1
        try clear c2
        try clear c2b0
        try clear c2b1
        try clear p2
        try clear c3
        try clear c3b0
        try clear c3b1
        try clear hx137_0
        try clear p137
        try clear q137
        obtain ⟨x3_1, x4_1, rfl, rfl, HA, HK1, HB⟩ := hrel
        cases gk with
        | zero => exact absurd HA.out (by simp [slices_Max_int_int.l0])
        | succ k1 =>
          have H := HA.out
          clear HA
          simp only [slices_Max_int_int.l0] at H
          by_cases c4 : x4_1 < (l0.length : Int)
          · rw [if_pos c4] at H
            have c4b0 : decide (x4_1 < (l0.length : Int)) = true := decide_eq_true c4
            clear c4
            by_cases c5 : 0 ≤ x4_1
            · rw [if_pos c5] at H
              have c5b0 : decide (0 ≤ x4_1) = true := decide_eq_true c5
              clear c5
              obtain ⟨ji6, hji6⟩ : ∃ j_ : Int, (mx x3_1 (rd l0 x4_1)) = j_ := ⟨_, rfl⟩
              replace H : (slices_Max_int_int.l0 k1 l0 ji6 (wrap64 (x4_1 + 1))) = some r := by first | (rw [hji6] at H; exact H) | (simp only [hji6] at H ⊢; exact H)
              have hji6_ : (if x3_1 < (rd l0 x4_1) then (rd l0 x4_1) else x3_1) = ji6 := hji6
              have H' := Aside0.mk H
              clear H
              have p138 : 0 ≤ (x4_1 : Int) := of_decide_eq_true (by first | (with_reducible assumption) | assumption)
              have q138 : x4_1 < (l0.length : Int) := of_decide_eq_true (by first | (with_reducible assumption) | assumption)
              obtain ⟨ad138, e138, hx138_0⟩ := Kd.at_int HR0.out x4_1 p138 q138
              obtain rfl : ad137 = ad138 := (by injection e138)
              replace hx138_0 := (HB.out.cell (World.block_lt_of_cell? w _ hx138_0)).trans hx138_0
              replace p138 := eq_true p138
              replace q138 := eq_true q138
              go_wp2
              go_roundg k1
              case measure => have := HK1.out; omega
              case rel => exact ⟨(ji6), (wrap64 (x4_1 + 1)), (by first | rfl | (simp; done) | (simp only [← hji6] <;> (first | rfl | simp)) | (simp [*]; done)), (by first | rfl | (simp; done) | (simp [*]; done)), H', ⟨by have := HK1.out; omega⟩, ⟨by repeat (first | (with_reducible first | exact HB.out | apply below_alloc | apply pw_below_drewN | apply below_drew1) | exact HB.out)⟩⟩
            · rw [if_neg c5] at H
              exact absurd H (by simp)
          · rw [if_neg c4] at H
            have c4b0 : decide (x4_1 < (l0.length : Int)) = false := decide_eq_false c4
            clear c4
            obtain rfl := Option.some.inj H
            go_wp2
            go_ret
            exact ⟨by first | rfl | (simp [errW_none, errW_some] <;> rfl) | (simp [*, errW_none, errW_some] <;> rfl), by repeat (first | (with_reducible first | exact HB.out | apply below_alloc | apply pw_below_drewN | apply below_drew1) | exact HB.out)⟩
    · rw [if_neg c3] at H
      exact absurd H (by simp)

/-! ### slices_Min_int_int: function 21 -/
def slices_Min_int_int.l0 : Nat → List Int → Int → Int → Option (Int)
  | 0, _, _, _ => none
  | k + 1, x0, x3, x4 => if x4 < (x0.length : Int) then (if 0 ≤ x4 then (slices_Min_int_int.l0 k x0 (mn x3 (rd x0 x4)) (wrap64 (x4 + 1))) else (none)) else (some x3)
def slices_Min_int_int.f (k : Nat) (l0 : List Int) : Option (Int) := if (l0.length : Int) < 1 then (none) else (if 0 < (l0.length : Int) then (slices_Min_int_int.l0 k l0 (rd l0 0) 1) else (none))
theorem slices_Min_int_int.mono_l : ∀ k, (∀ y0 y1 y2, LeO (slices_Min_int_int.l0 k y0 y1 y2) (slices_Min_int_int.l0 (k + 1) y0 y1 y2))
  | 0 => fun _ _ _ r h => by simp [slices_Min_int_int.l0] at h
  | k + 1 => by
    have ih0 := slices_Min_int_int.mono_l k
    · intro y0 y1 y2
      unfold slices_Min_int_int.l0
      repeat' first
      | (with_reducible exact ih0 _ _ _)
      | (with_reducible exact LeO.refl _)
      | (with_reducible exact LeO.none _)
      | (with_reducible refine LeO.ite ?_ ?_)
      | (with_reducible refine LeO.bind ?_ (fun _ => ?_))
      | exact ih0 _ _ _
      | exact LeO.none _
      | refine LeO.ite ?_ ?_
      | refine LeO.bind ?_ (fun _ => ?_)
theorem slices_Min_int_int.mono : ∀ a0 k, LeO (slices_Min_int_int.f k a0) (slices_Min_int_int.f (k + 1) a0) := by
  intro a0 k
  have ih0 := slices_Min_int_int.mono_l k
  unfold slices_Min_int_int.f
  repeat' first
      | (with_reducible exact ih0 _ _ _)
      | (with_reducible exact LeO.refl _)
      | (with_reducible exact LeO.none _)
      | (with_reducible refine LeO.ite ?_ ?_)
      | (with_reducible refine LeO.bind ?_ (fun _ => ?_))
      | exact ih0 _ _ _
      | exact LeO.none _
      | refine LeO.ite ?_ ?_
      | refine LeO.bind ?_ (fun _ => ?_)
set_option maxHeartbeats 8000000 in
set_option maxRecDepth 100000 in
theorem slices_Min_int_int.calls (k : Nat) (A0 : Option Addr) (c0 : Nat) (l0 : List Int) (r : Int) (w : World) (hr0 : Kd.C (Kd.int .i64) w A0 l0.length l0) (hc0 : l0.length ≤ c0) (h : slices_Min_int_int.f k l0 = some r) :
    Calls Try.prog 21 #[.slice A0 l0.length c0] w fun e w' => e = .returned (.int .i64 r) ∧ Below w.heap.size w w' := by
  have HR0 := Aside0.mk hr0
  have HC0 := Aside0.mk hc0
  clear hr0 hc0
  have HB := Aside0.mk (Below.refl w.heap.size w)
  have H : (if (l0.length : Int) < 1 then (none) else (if 0 < (l0.length : Int) then (slices_Min_int_int.l0 k l0 (rd l0 0) 1) else (none))) = some r := h
  clear h
  by_cases c2 : (l0.length : Int) < 1
  · rw [if_pos c2] at H
    exact absurd H (by simp)
  · rw [if_neg c2] at H
    have c2b0 : decide ((l0.length : Int) < 1) = false := decide_eq_false c2
    have c2b1 : decide (l0.length < 1) = false := decide_eq_false (by omega)
    clear c2
    by_cases c3 : 0 < (l0.length : Int)
    · rw [if_pos c3] at H
      have c3b0 : decide (0 < (l0.length : Int)) = true := decide_eq_true c3
      have c3b1 : decide (0 < l0.length) = true := decide_eq_true (by omega)
      clear c3
      have H' := Aside0.mk H
      clear H
      have p139 : 0 ≤ (0 : Int) := (by omega)
      have q139 : 0 < (l0.length : Int) := of_decide_eq_true (by first | (with_reducible assumption) | assumption)
      obtain ⟨ad139, e139, hx139_0⟩ := Kd.at_int HR0.out 0 p139 q139
      cases e139
      have qi139 : (0 < l0.length) = True := eq_true (by omega)
      (try rw [show ((0 : Int)).toNat = 0 from rfl] at hx139_0)
      (try rw [Addr.add_zero'] at hx139_0)
      replace p139 := eq_true p139
      replace q139 := eq_true q139
      go_enter Try.func21, Try.ntmps21
      go_wp2
      go_loopg [3, 4] k (fun kq v3 v4 w' => ∃ (x3_1 : Int) (x4_1 : Int), v3 = .int .i64 x3_1 ∧ v4 = .int .i64 x4_1 ∧ Aside0 (slices_Min_int_int.l0 kq l0 x3_1 x4_1 = some r) ∧ Aside0 (kq ≤ k) ∧ Aside0 (Below w.heap.size w w'))
      case atStart => exact ⟨(rd l0 0), (1), (by first | rfl | (simp; done) | (simp [*]; done)), (by first | rfl | (simp; done) | (simp [*]; done)), H', ⟨Nat.le_refl _⟩, ⟨by repeat (first | (with_reducible first | exact HB.out | apply below_alloc | apply pw_below_drewN | apply below_drew1) | exact HB.out)⟩⟩
      case round =>
        clear H'
        try clear p1
        try clear q1
        try clear hx1
        try clear qi1
        try clear c2
        try clear c2b0
        try clear c2b1
        try clear p2
        try clear c3
        try clear c3b0
        try clear c3b1
        try clear hx139_0
        try clear p139
        try clear q139
        obtain ⟨x3_1, x4_1, rfl, rfl, HA, HK1, HB⟩ := hrel
        cases gk with
        | zero => exact absurd HA.out (by simp [slices_Min_int_int.l0])
        | succ k1 =>
          have H := HA.out
          clear HA
          simp only [slices_Min_int_int.l0] at H
          by_cases c4 : x4_1 < (l0.length : Int)
          · rw [if_pos c4] at H
            have c4b0 : decide (x4_1 < (l0.length : Int)) = true := decide_eq_true c4
            clear c4
            by_cases c5 : 0 ≤ x4_1
            · rw [if_pos c5] at H
              have c5b0 : decide (0 ≤ x4_1) = true := decide_eq_true c5
              clear c5
              obtain ⟨ji6, hji6⟩ : ∃ j_ : Int, (mn x3_1 (rd l0 x4_1)) = j_ := ⟨_, rfl⟩
              replace H : (slices_Min_int_int.l0 k1 l0 ji6 (wrap64 (x4_1 + 1))) = some r := by first | (rw [hji6] at H; exact H) | (simp only [hji6] at H ⊢; exact H)
              have hji6_ : (if (rd l0 x4_1) < x3_1 then (rd l0 x4_1) else x3_1) = ji6 := hji6
              have H' := Aside0.mk H
              clear H
              have p140 : 0 ≤ (x4_1 : Int) := of_decide_eq_true (by first | (with_reducible assumption) | assumption)
              have q140 : x4_1 < (l0.length : Int) := of_decide_eq_true (by first | (with_reducible assumption) | assumption)
              obtain ⟨ad140, e140, hx140_0⟩ := Kd.at_int HR0.out x4_1 p140 q140
              obtain rfl : ad139 = ad140 := (by injection e140)
              replace hx140_0 := (HB.out.cell (World.block_lt_of_cell? w _ hx140_0)).trans hx140_0
              replace p140 := eq_true p140
              replace q140 := eq_true q140
              go_wp2
              go_roundg k1
              case measure => have := HK1.out; omega
              case rel => exact ⟨(ji6), (wrap64 (x4_1 + 1)), (by first | rfl | (simp; done) | (simp only [← hji6] <;> (first | rfl | simp)) | (simp [*]; done)), (by first | rfl | (simp; done) | (simp [*]; done)), H', ⟨by have := HK1.out; omega⟩, ⟨by repeat (first | (with_reducible first | exact HB.out | apply below_alloc | apply pw_below_drewN | apply below_drew1) | exact HB.out)⟩⟩
            · rw [if_neg c5] at H
              exact absurd H (by simp)
          · rw [if_neg c4] at H
            have c4b0 : decide (x4_1 < (l0.length : Int)) = false := decide_eq_false c4
            clear c4
            obtain rfl := Option.some.inj H
            go_wp2
            go_ret
            exact ⟨by first | rfl | (simp [errW_none, errW_some] <;> rfl) | (simp [*, errW_none, errW_some] <;> rfl), by repeat (first | (with_reducible first | exact HB.out | apply below_alloc | apply pw_below_drewN | apply below_drew1) | exact HB.out)⟩
    · rw [if_neg c3] at H
      exact absurd H (by simp)

end Go.Proofs.Ytjigomnmfhbjmaa.Print
