-- Made by wip/tools/wprint.py, a program of this workplace, over the translation. Lean checks it.
import Derived.Test.YtkjmhijgjllnbaaPrint0
import Derived.Test.YtkjmhijgjllnbaaPrint2
import Derived.Test.YtkjmhijgjllnbaaPrint3
namespace Go.Proofs.Ytkjmhijgjllnbaa.Print
open Go.RowKit Go.Proofs.YtkjmhijgjllnbaaW.PrintWords Go.Proofs.YtkjmhijgjllnbaaW.PrintLast Go.Proofs.YtkjmhijgjllnbaaW.PrintMore
attribute [local go_sem] max2_int min2_int max_two min_two max_three min_three max_four min_four   -- for this text's walks alone
set_option linter.unusedVariables false
set_option linter.unusedSimpArgs false

/-! ### escritoirelaw01_WordsBack: function 5 -/
def escritoirelaw01_WordsBack.j0 : Nat → Int → Int → Int → Int → Int → Int → Bool → Int → Int → Int → Int → Option (Bool)
  | 0, _, _, _, _, _, _, _, _, _, _, _ => none
  | k + 1, x0, x2, x7, x8, x9, x10, x46, x136000, x136001, x136002, x136003 => if x46 = true then (if x8 = 0 then (if x10 = 2 then (some true) else (if x8 = 1 then (some (x10 == 1)) else (some false))) else (if x8 = 1 then (some (x10 == 1)) else (some false))) else ((words_Get.f x9 x136000 x136001).bind fun bt141 => ((words_Put.f x9 x136000 x136001 x7).bind fun bt143 => ((words_Get.f x0 x136002 x136003).bind fun bt145 => ((words_Get.f x9 x136002 x136003).bind fun bt147 => (if bt145.2 = 0 then (if (wrap64 (x136002 + x136003)) ≤ x136000 then (if bt141.2 = 0 then (if bt141.1 = x2 then (if bt143.2 = 0 then (if bt143.1 = x0 then (if bt145.2 = bt147.2 then (some (bt145.1 == bt147.1)) else (some false)) else (some false)) else (some false)) else (some false)) else (some false)) else (if bt141.2 = 0 then (if bt141.1 = x2 then (if bt143.2 = 0 then (if bt143.1 = x0 then (if bt145.2 = bt147.2 then (if ((wrap64 (x136000 + x136001)) ≤ x136002) then (some (bt145.1 == bt147.1)) else (some true)) else (some false)) else (some false)) else (some false)) else (some false)) else (some false))) else (if bt141.2 = 0 then (if bt141.1 = x2 then (if bt143.2 = 0 then (if bt143.1 = x0 then (if bt145.2 = bt147.2 then (some true) else (some false)) else (some false)) else (some false)) else (some false)) else (some false)))))))
def escritoirelaw01_WordsBack.f (k : Nat) (a0 : Int) (a1_0 : Int) (a1_1 : Int) (a1_2 : Int) (a1_3 : Int) (a2 : Int) : Option (Bool) := (escritoirelaw01_lives.f).bind fun t136 => (if t136 = true then ((words_Get.f a0 a1_0 a1_1).bind fun bt137 => ((words_Put.f a0 a1_0 a1_1 a2).bind fun bt139 => (if bt137.2 = 0 then (escritoirelaw01_WordsBack.j0 k a0 a2 bt137.1 bt137.2 bt139.1 bt139.2 (bt139.2 != 0) a1_0 a1_1 a1_2 a1_3) else (escritoirelaw01_WordsBack.j0 k a0 a2 bt137.1 bt137.2 bt139.1 bt139.2 true a1_0 a1_1 a1_2 a1_3)))) else (some false))
theorem escritoirelaw01_WordsBack.mono_l : ∀ k, (∀ y0 y1 y2 y3 y4 y5 y6 y7 y8 y9 y10, LeO (escritoirelaw01_WordsBack.j0 k y0 y1 y2 y3 y4 y5 y6 y7 y8 y9 y10) (escritoirelaw01_WordsBack.j0 (k + 1) y0 y1 y2 y3 y4 y5 y6 y7 y8 y9 y10))
  | 0 => fun _ _ _ _ _ _ _ _ _ _ _ r h => by simp [escritoirelaw01_WordsBack.j0] at h
  | k + 1 => by
    have ih0 := escritoirelaw01_WordsBack.mono_l k
    · intro y0 y1 y2 y3 y4 y5 y6 y7 y8 y9 y10
      unfold escritoirelaw01_WordsBack.j0
      repeat' first
      | (with_reducible exact ih0 _ _ _ _ _ _ _ _ _ _ _)
      | (with_reducible exact LeO.refl _)
      | (with_reducible exact LeO.none _)
      | (with_reducible refine LeO.ite ?_ ?_)
      | (with_reducible refine LeO.bind ?_ (fun _ => ?_))
      | exact ih0 _ _ _ _ _ _ _ _ _ _ _
      | exact LeO.none _
      | refine LeO.ite ?_ ?_
      | refine LeO.bind ?_ (fun _ => ?_)
theorem escritoirelaw01_WordsBack.mono : ∀ a0 a1 a2 a3 a4 a5 k, LeO (escritoirelaw01_WordsBack.f k a0 a1 a2 a3 a4 a5) (escritoirelaw01_WordsBack.f (k + 1) a0 a1 a2 a3 a4 a5) := by
  intro a0 a1 a2 a3 a4 a5 k
  have ih0 := escritoirelaw01_WordsBack.mono_l k
  unfold escritoirelaw01_WordsBack.f
  repeat' first
      | (with_reducible exact ih0 _ _ _ _ _ _ _ _ _ _ _)
      | (with_reducible exact LeO.refl _)
      | (with_reducible exact LeO.none _)
      | (with_reducible refine LeO.ite ?_ ?_)
      | (with_reducible refine LeO.bind ?_ (fun _ => ?_))
      | exact ih0 _ _ _ _ _ _ _ _ _ _ _
      | exact LeO.none _
      | refine LeO.ite ?_ ?_
      | refine LeO.bind ?_ (fun _ => ?_)
set_option maxHeartbeats 8000000 in
set_option maxRecDepth 100000 in
theorem escritoirelaw01_WordsBack.calls (k : Nat) (a0 : Int) (a1_0 : Int) (a1_1 : Int) (a1_2 : Int) (a1_3 : Int) (a2 : Int) (r : Bool) (w : World) (h : escritoirelaw01_WordsBack.f k a0 a1_0 a1_1 a1_2 a1_3 a2 = some r) :
    Calls Try.prog 5 #[.int .u64 a0, .agg #[.int .i64 a1_0, .int .i64 a1_1, .int .i64 a1_2, .int .i64 a1_3], .int .u64 a2] w fun e w' => e = .returned (.bool r) ∧ Below w.heap.size w w' := by
  have hu32 := Try.underlying32
  have HB := Aside0.mk (Below.refl w.heap.size w)
  have H : ((escritoirelaw01_lives.f).bind fun t136 => (if t136 = true then ((words_Get.f a0 a1_0 a1_1).bind fun bt137 => ((words_Put.f a0 a1_0 a1_1 a2).bind fun bt139 => (if bt137.2 = 0 then (escritoirelaw01_WordsBack.j0 k a0 a2 bt137.1 bt137.2 bt139.1 bt139.2 (bt139.2 != 0) a1_0 a1_1 a1_2 a1_3) else (escritoirelaw01_WordsBack.j0 k a0 a2 bt137.1 bt137.2 bt139.1 bt139.2 true a1_0 a1_1 a1_2 a1_3)))) else (some false))) = some r := h
  clear h
  replace H := Option.bind_eq_some_iff.mp H
  obtain ⟨t136, A40, H⟩ := H
  replace H : (if t136 = true then ((words_Get.f a0 a1_0 a1_1).bind fun bt137 => ((words_Put.f a0 a1_0 a1_1 a2).bind fun bt139 => (if bt137.2 = 0 then (escritoirelaw01_WordsBack.j0 k a0 a2 bt137.1 bt137.2 bt139.1 bt139.2 (bt139.2 != 0) a1_0 a1_1 a1_2 a1_3) else (escritoirelaw01_WordsBack.j0 k a0 a2 bt137.1 bt137.2 bt139.1 bt139.2 true a1_0 a1_1 a1_2 a1_3)))) else (some false)) = some r := H
  have A4 := Aside0.mk A40
  clear A40
  by_cases c5 : t136 = true
  · subst c5
    have H1 : ((words_Get.f a0 a1_0 a1_1).bind fun bt137 => ((words_Put.f a0 a1_0 a1_1 a2).bind fun bt139 => (if bt137.2 = 0 then (escritoirelaw01_WordsBack.j0 k a0 a2 bt137.1 bt137.2 bt139.1 bt139.2 (bt139.2 != 0) a1_0 a1_1 a1_2 a1_3) else (escritoirelaw01_WordsBack.j0 k a0 a2 bt137.1 bt137.2 bt139.1 bt139.2 true a1_0 a1_1 a1_2 a1_3)))) = some r := by rw [if_pos rfl] at H; exact H
    clear H
    have H := H1
    clear H1
    replace H := Option.bind_eq_some_iff.mp H
    obtain ⟨⟨t137, t138⟩, A60, H⟩ := H
    replace H : ((words_Put.f a0 a1_0 a1_1 a2).bind fun bt139 => (if t138 = 0 then (escritoirelaw01_WordsBack.j0 k a0 a2 t137 t138 bt139.1 bt139.2 (bt139.2 != 0) a1_0 a1_1 a1_2 a1_3) else (escritoirelaw01_WordsBack.j0 k a0 a2 t137 t138 bt139.1 bt139.2 true a1_0 a1_1 a1_2 a1_3))) = some r := H
    have A6 := Aside0.mk A60
    clear A60
    replace H := Option.bind_eq_some_iff.mp H
    obtain ⟨⟨t139, t140⟩, A70, H⟩ := H
    replace H : (if t138 = 0 then (escritoirelaw01_WordsBack.j0 k a0 a2 t137 t138 t139 t140 (t140 != 0) a1_0 a1_1 a1_2 a1_3) else (escritoirelaw01_WordsBack.j0 k a0 a2 t137 t138 t139 t140 true a1_0 a1_1 a1_2 a1_3)) = some r := H
    have A7 := Aside0.mk A70
    clear A70
    have HC8 := Aside0.mk H
    clear H
    go_enter Try.func5, Try.ntmps5
    go_upto_region 5 with (first | ((with_reducible refine gate_dst (N := 4) rfl ?_); refine box_event ?hg (N := 4) ?hd (cs := #[.int .i64 a1_0, .int .i64 a1_1, .int .i64 a1_2, .int .i64 a1_3]) (t := 32) ?hr ?_; (case hd => rfl); (case hg => rfl); (case hr => first | (go_simp; done) | (go_simp; rfl)); intro gb135 hg w9 hbox hb; have n0_ := Aside0.mk (below_step (by repeat (first | (with_reducible first | exact HB.out | apply below_alloc | apply pw_below_drewN | apply below_drew1) | exact HB.out)) hb); have n1_ := Aside0.mk (hbox); have n2_ := Aside0.mk ((by rw [hg]; exact (below_size (by repeat (first | (with_reducible first | exact HB.out | apply below_alloc | apply pw_below_drewN | apply below_drew1) | exact HB.out))) : w.heap.size ≤ gb135)); have n3_ := Aside0.mk ((by rw [hg]; exact (below_size (by repeat (first | (with_reducible first | exact HB.out | apply below_alloc | apply pw_below_drewN | apply below_drew1) | exact HB.out))) : w.heap.size ≤ gb135)); clear HB; have HB := n0_; have BK135 := n1_; have GW135 := n2_; have GE135 := n3_; clear n0_ n1_ n2_ n3_; clear hb hbox hg) | ((with_reducible refine gate_callee (f := 9) rfl ?_); refine goesL_ (some 20) rfl rfl Try.func9 (by kernel_rfl) rfl #[] rfl (by (try simp only [List.map_toArray, List.map_cons, List.map_nil]); first | done | rfl | (simp only [List.length_drop, List.length_take]; rfl)) ?_; (with_reducible refine (escritoirelaw01_lives.calls  true _ A4.out).mono ?_); rintro e w10 ⟨rfl, hb⟩; refine ⟨_, rfl, ?_⟩; have n0_ := Aside0.mk (blk_below (g := gb135) (o := .cells #[.int .i64 a1_0, .int .i64 a1_1, .int .i64 a1_2, .int .i64 a1_3] 32 (0, 0)) (by (with_reducible repeat (first | refine blk_drewN ?_ _ | refine blk_drew ?_ | refine blk_alloc ?_ _)); exact BK135.out) hb); have n1_ := Aside0.mk (below_step (by repeat (first | (with_reducible first | exact HB.out | apply below_alloc | apply pw_below_drewN | apply below_drew1 | refine below_set ?_ GE135.out) | exact HB.out)) hb); clear BK135; clear HB; have BK135 := n0_; have HB := n1_; clear n0_ n1_; (try clear hb); (try clear hb2); (try clear hk); (try clear hi); have hcz11_0 : w10.cell? ⟨gb135, 0, none⟩ = some (.int .i64 a1_0) := (blk_cell BK135.out 0).trans rfl; have hcz11_1 : w10.cell? ⟨gb135, 1, none⟩ = some (.int .i64 a1_1) := (blk_cell BK135.out 1).trans rfl; have hcz11_2 : w10.cell? ⟨gb135, 2, none⟩ = some (.int .i64 a1_2) := (blk_cell BK135.out 2).trans rfl; have hcz11_3 : w10.cell? ⟨gb135, 3, none⟩ = some (.int .i64 a1_3) := (blk_cell BK135.out 3).trans rfl; have hfz11_0 := blk_frozen BK135.out 0; have hfz11_1 := blk_frozen BK135.out 1; have hfz11_2 := blk_frozen BK135.out 2; have hfz11_3 := blk_frozen BK135.out 3) | ((with_reducible refine gate_callee (f := 11) rfl ?_); refine goesL_ (some 28) rfl rfl Try.func11 (by kernel_rfl) rfl #[.int .u64 a0, .int .i64 a1_0, .int .i64 a1_1] rfl (by (try simp only [List.map_toArray, List.map_cons, List.map_nil]); first | done | rfl | (simp only [List.length_drop, List.length_take]; rfl)) ?_; (with_reducible refine (words_Get.calls a0 a1_0 a1_1 t137 t138 _ A6.out).mono ?_); rintro e w' ⟨rfl, ⟨nd, rfl⟩⟩; refine ⟨_, rfl, ?_⟩) | ((with_reducible refine gate_callee (f := 13) rfl ?_); refine goesL_ (some 38) rfl rfl Try.func13 (by kernel_rfl) rfl #[.int .u64 a0, .int .i64 a1_0, .int .i64 a1_1, .int .u64 a2] rfl (by (try simp only [List.map_toArray, List.map_cons, List.map_nil]); first | done | rfl | (simp only [List.length_drop, List.length_take]; rfl)) ?_; (with_reducible refine (words_Put.calls a0 a1_0 a1_1 a2 t139 t140 _ A7.out).mono ?_); rintro e w' ⟨rfl, ⟨nd, rfl⟩⟩; refine ⟨_, rfl, ?_⟩))
    (try simp only [Act.put, List.setIfInBounds_toArray, List.set_cons_zero, List.set_cons_succ])
    go_cut [46] (fun v46 wc => ∃ (kq : Nat) (x46_7 : Bool), v46 = .bool x46_7 ∧ Aside0 (escritoirelaw01_WordsBack.j0 kq a0 a2 t137 t138 t139 t140 x46_7 a1_0 a1_1 a1_2 a1_3 = some r) ∧ Aside0 (kq ≤ k) ∧ Aside0 (wc.heap[gb135]? = some (.cells #[.int .i64 a1_0, .int .i64 a1_1, .int .i64 a1_2, .int .i64 a1_3] 32 (0, 0))) ∧ Aside0 (Below w.heap.size w wc))
    case first =>
      have H := HC8.out
      clear HC8
      by_cases c12 : t138 = 0
      · rw [if_pos c12] at H
        have c12b0 : (t138 == 0) = true := beq_iff_eq.mpr c12
        have c12b1 : (t138 != 0) = false := bne_eq_false_iff_eq.mpr c12
        clear c12
        (first | rw [c12b0] | (simp only [i64_w, i32_w]; rw [c12b0]) | skip)
        have H' := Aside0.mk H
        clear H
        go_wp2
        go_meet
        case rel => exact ⟨_, ((t140 != 0)), (by first | rfl | (simp; done) | (simp [*]; done)), H', ⟨by first | omega | exact Nat.le_refl _⟩, ⟨by (with_reducible repeat (first | refine blk_drewN ?_ _ | refine blk_drew ?_ | refine blk_alloc ?_ _)); exact BK135.out⟩, ⟨by repeat (first | (with_reducible first | exact HB.out | apply below_alloc | apply pw_below_drewN | apply below_drew1 | refine below_set ?_ GE135.out) | exact HB.out)⟩⟩
      · rw [if_neg c12] at H
        have c12b0 : (t138 == 0) = false := beq_eq_false_iff_ne.mpr c12
        have c12b1 : (t138 != 0) = true := bne_iff_ne.mpr c12
        (first | rw [c12b0] | (simp only [i64_w, i32_w]; rw [c12b0]) | skip)
        have H' := Aside0.mk H
        clear H
        go_wp2
        go_meet
        case rel => exact ⟨_, (true), (by first | rfl | (simp; done) | (simp [*]; done)), H', ⟨by first | omega | exact Nat.le_refl _⟩, ⟨by (with_reducible repeat (first | refine blk_drewN ?_ _ | refine blk_drew ?_ | refine blk_alloc ?_ _)); exact BK135.out⟩, ⟨by repeat (first | (with_reducible first | exact HB.out | apply below_alloc | apply pw_below_drewN | apply below_drew1 | refine below_set ?_ GE135.out) | exact HB.out)⟩⟩
    case rest =>
      clear HC8
      try clear c1
      try clear p2
      try clear c5
      try clear c9
      try clear c11
      try clear c12
      try clear c12b0
      try clear c12b1
      try clear hcz11_0
      try clear hcz11_1
      try clear hcz11_2
      try clear hcz11_3
      try clear hfz11_0
      try clear hfz11_1
      try clear hfz11_2
      try clear hfz11_3
      obtain ⟨kq, x46_7, rfl, HA, HJ7, BK135, HB⟩ := hcut
      cases kq with
      | zero => exact absurd HA.out (by simp [escritoirelaw01_WordsBack.j0])
      | succ kj7 =>
        have H := HA.out
        clear HA
        simp only [escritoirelaw01_WordsBack.j0] at H
        by_cases c13 : x46_7 = true
        · subst c13
          have H1 : (if t138 = 0 then (if t140 = 2 then (some true) else (if t138 = 1 then (some (t140 == 1)) else (some false))) else (if t138 = 1 then (some (t140 == 1)) else (some false))) = some r := by rw [if_pos rfl] at H; exact H
          clear H
          have H := H1
          clear H1
          by_cases c14 : t138 = 0
          · rw [if_pos c14] at H
            have c14b0 : (t138 == 0) = true := beq_iff_eq.mpr c14
            have c14b1 : (t138 != 0) = false := bne_eq_false_iff_eq.mpr c14
            clear c14
            by_cases c15 : t140 = 2
            · rw [if_pos c15] at H
              have c15b0 : (t140 == 2) = true := beq_iff_eq.mpr c15
              have c15b1 : (t140 != 2) = false := bne_eq_false_iff_eq.mpr c15
              clear c15
              obtain rfl := Option.some.inj H
              go_wp2
              go_ret
              exact ⟨by first | rfl | (simp [errW_none, errW_some] <;> rfl) | (simp [*, errW_none, errW_some] <;> rfl), by repeat (first | (with_reducible first | exact HB.out | apply below_alloc | apply pw_below_drewN | apply below_drew1 | refine below_set ?_ GE135.out) | exact HB.out)⟩
            · rw [if_neg c15] at H
              have c15b0 : (t140 == 2) = false := beq_eq_false_iff_ne.mpr c15
              have c15b1 : (t140 != 2) = true := bne_iff_ne.mpr c15
              by_cases c16 : t138 = 1
              · rw [if_pos c16] at H
                have c16b0 : (t138 == 1) = true := beq_iff_eq.mpr c16
                have c16b1 : (t138 != 1) = false := bne_eq_false_iff_eq.mpr c16
                clear c16
                obtain rfl := Option.some.inj H
                go_wp2
                go_ret
                exact ⟨by first | rfl | (simp [errW_none, errW_some] <;> rfl) | (simp [*, errW_none, errW_some] <;> rfl), by repeat (first | (with_reducible first | exact HB.out | apply below_alloc | apply pw_below_drewN | apply below_drew1 | refine below_set ?_ GE135.out) | exact HB.out)⟩
              · rw [if_neg c16] at H
                have c16b0 : (t138 == 1) = false := beq_eq_false_iff_ne.mpr c16
                have c16b1 : (t138 != 1) = true := bne_iff_ne.mpr c16
                obtain rfl := Option.some.inj H
                go_wp2
                go_ret
                exact ⟨by first | rfl | (simp [errW_none, errW_some] <;> rfl) | (simp [*, errW_none, errW_some] <;> rfl), by repeat (first | (with_reducible first | exact HB.out | apply below_alloc | apply pw_below_drewN | apply below_drew1 | refine below_set ?_ GE135.out) | exact HB.out)⟩
          · rw [if_neg c14] at H
            have c14b0 : (t138 == 0) = false := beq_eq_false_iff_ne.mpr c14
            have c14b1 : (t138 != 0) = true := bne_iff_ne.mpr c14
            by_cases c17 : t138 = 1
            · rw [if_pos c17] at H
              have c17b0 : (t138 == 1) = true := beq_iff_eq.mpr c17
              have c17b1 : (t138 != 1) = false := bne_eq_false_iff_eq.mpr c17
              clear c17
              obtain rfl := Option.some.inj H
              go_wp2
              go_ret
              exact ⟨by first | rfl | (simp [errW_none, errW_some] <;> rfl) | (simp [*, errW_none, errW_some] <;> rfl), by repeat (first | (with_reducible first | exact HB.out | apply below_alloc | apply pw_below_drewN | apply below_drew1 | refine below_set ?_ GE135.out) | exact HB.out)⟩
            · rw [if_neg c17] at H
              have c17b0 : (t138 == 1) = false := beq_eq_false_iff_ne.mpr c17
              have c17b1 : (t138 != 1) = true := bne_iff_ne.mpr c17
              obtain rfl := Option.some.inj H
              go_wp2
              go_ret
              exact ⟨by first | rfl | (simp [errW_none, errW_some] <;> rfl) | (simp [*, errW_none, errW_some] <;> rfl), by repeat (first | (with_reducible first | exact HB.out | apply below_alloc | apply pw_below_drewN | apply below_drew1 | refine below_set ?_ GE135.out) | exact HB.out)⟩
        · replace c13 := Bool.eq_false_iff.mpr c13
          subst c13
          have H1 : ((words_Get.f t139 a1_0 a1_1).bind fun bt141 => ((words_Put.f t139 a1_0 a1_1 t137).bind fun bt143 => ((words_Get.f a0 a1_2 a1_3).bind fun bt145 => ((words_Get.f t139 a1_2 a1_3).bind fun bt147 => (if bt145.2 = 0 then (if (wrap64 (a1_2 + a1_3)) ≤ a1_0 then (if bt141.2 = 0 then (if bt141.1 = a2 then (if bt143.2 = 0 then (if bt143.1 = a0 then (if bt145.2 = bt147.2 then (some (bt145.1 == bt147.1)) else (some false)) else (some false)) else (some false)) else (some false)) else (some false)) else (if bt141.2 = 0 then (if bt141.1 = a2 then (if bt143.2 = 0 then (if bt143.1 = a0 then (if bt145.2 = bt147.2 then (if ((wrap64 (a1_0 + a1_1)) ≤ a1_2) then (some (bt145.1 == bt147.1)) else (some true)) else (some false)) else (some false)) else (some false)) else (some false)) else (some false))) else (if bt141.2 = 0 then (if bt141.1 = a2 then (if bt143.2 = 0 then (if bt143.1 = a0 then (if bt145.2 = bt147.2 then (some true) else (some false)) else (some false)) else (some false)) else (some false)) else (some false))))))) = some r := by rw [if_neg (show ¬ (false = true) by decide)] at H; exact H
          clear H
          have H := H1
          clear H1
          replace H := Option.bind_eq_some_iff.mp H
          obtain ⟨⟨t141, t142⟩, A180, H⟩ := H
          replace H : ((words_Put.f t139 a1_0 a1_1 t137).bind fun bt143 => ((words_Get.f a0 a1_2 a1_3).bind fun bt145 => ((words_Get.f t139 a1_2 a1_3).bind fun bt147 => (if bt145.2 = 0 then (if (wrap64 (a1_2 + a1_3)) ≤ a1_0 then (if t142 = 0 then (if t141 = a2 then (if bt143.2 = 0 then (if bt143.1 = a0 then (if bt145.2 = bt147.2 then (some (bt145.1 == bt147.1)) else (some false)) else (some false)) else (some false)) else (some false)) else (some false)) else (if t142 = 0 then (if t141 = a2 then (if bt143.2 = 0 then (if bt143.1 = a0 then (if bt145.2 = bt147.2 then (if ((wrap64 (a1_0 + a1_1)) ≤ a1_2) then (some (bt145.1 == bt147.1)) else (some true)) else (some false)) else (some false)) else (some false)) else (some false)) else (some false))) else (if t142 = 0 then (if t141 = a2 then (if bt143.2 = 0 then (if bt143.1 = a0 then (if bt145.2 = bt147.2 then (some true) else (some false)) else (some false)) else (some false)) else (some false)) else (some false)))))) = some r := H
          have A18 := Aside0.mk A180
          clear A180
          replace H := Option.bind_eq_some_iff.mp H
          obtain ⟨⟨t143, t144⟩, A190, H⟩ := H
          replace H : ((words_Get.f a0 a1_2 a1_3).bind fun bt145 => ((words_Get.f t139 a1_2 a1_3).bind fun bt147 => (if bt145.2 = 0 then (if (wrap64 (a1_2 + a1_3)) ≤ a1_0 then (if t142 = 0 then (if t141 = a2 then (if t144 = 0 then (if t143 = a0 then (if bt145.2 = bt147.2 then (some (bt145.1 == bt147.1)) else (some false)) else (some false)) else (some false)) else (some false)) else (some false)) else (if t142 = 0 then (if t141 = a2 then (if t144 = 0 then (if t143 = a0 then (if bt145.2 = bt147.2 then (if ((wrap64 (a1_0 + a1_1)) ≤ a1_2) then (some (bt145.1 == bt147.1)) else (some true)) else (some false)) else (some false)) else (some false)) else (some false)) else (some false))) else (if t142 = 0 then (if t141 = a2 then (if t144 = 0 then (if t143 = a0 then (if bt145.2 = bt147.2 then (some true) else (some false)) else (some false)) else (some false)) else (some false)) else (some false))))) = some r := H
          have A19 := Aside0.mk A190
          clear A190
          replace H := Option.bind_eq_some_iff.mp H
          obtain ⟨⟨t145, t146⟩, A200, H⟩ := H
          replace H : ((words_Get.f t139 a1_2 a1_3).bind fun bt147 => (if t146 = 0 then (if (wrap64 (a1_2 + a1_3)) ≤ a1_0 then (if t142 = 0 then (if t141 = a2 then (if t144 = 0 then (if t143 = a0 then (if t146 = bt147.2 then (some (t145 == bt147.1)) else (some false)) else (some false)) else (some false)) else (some false)) else (some false)) else (if t142 = 0 then (if t141 = a2 then (if t144 = 0 then (if t143 = a0 then (if t146 = bt147.2 then (if ((wrap64 (a1_0 + a1_1)) ≤ a1_2) then (some (t145 == bt147.1)) else (some true)) else (some false)) else (some false)) else (some false)) else (some false)) else (some false))) else (if t142 = 0 then (if t141 = a2 then (if t144 = 0 then (if t143 = a0 then (if t146 = bt147.2 then (some true) else (some false)) else (some false)) else (some false)) else (some false)) else (some false)))) = some r := H
          have A20 := Aside0.mk A200
          clear A200
          replace H := Option.bind_eq_some_iff.mp H
          obtain ⟨⟨t147, t148⟩, A210, H⟩ := H
          replace H : (if t146 = 0 then (if (wrap64 (a1_2 + a1_3)) ≤ a1_0 then (if t142 = 0 then (if t141 = a2 then (if t144 = 0 then (if t143 = a0 then (if t146 = t148 then (some (t145 == t147)) else (some false)) else (some false)) else (some false)) else (some false)) else (some false)) else (if t142 = 0 then (if t141 = a2 then (if t144 = 0 then (if t143 = a0 then (if t146 = t148 then (if ((wrap64 (a1_0 + a1_1)) ≤ a1_2) then (some (t145 == t147)) else (some true)) else (some false)) else (some false)) else (some false)) else (some false)) else (some false))) else (if t142 = 0 then (if t141 = a2 then (if t144 = 0 then (if t143 = a0 then (if t146 = t148 then (some true) else (some false)) else (some false)) else (some false)) else (some false)) else (some false))) = some r := H
          have A21 := Aside0.mk A210
          clear A210
          by_cases c22 : t146 = 0
          · rw [if_pos c22] at H
            have c22b0 : (t146 == 0) = true := beq_iff_eq.mpr c22
            have c22b1 : (t146 != 0) = false := bne_eq_false_iff_eq.mpr c22
            clear c22
            by_cases c23 : (wrap64 (a1_2 + a1_3)) ≤ a1_0
            · rw [if_pos c23] at H
              have c23b0 : decide ((wrap64 (a1_2 + a1_3)) ≤ a1_0) = true := decide_eq_true c23
              clear c23
              by_cases c24 : t142 = 0
              · rw [if_pos c24] at H
                have c24b0 : (t142 == 0) = true := beq_iff_eq.mpr c24
                have c24b1 : (t142 != 0) = false := bne_eq_false_iff_eq.mpr c24
                clear c24
                by_cases c25 : t141 = a2
                · rw [if_pos c25] at H
                  have c25b0 : (t141 == a2) = true := beq_iff_eq.mpr c25
                  have c25b1 : (t141 != a2) = false := bne_eq_false_iff_eq.mpr c25
                  clear c25
                  by_cases c26 : t144 = 0
                  · rw [if_pos c26] at H
                    have c26b0 : (t144 == 0) = true := beq_iff_eq.mpr c26
                    have c26b1 : (t144 != 0) = false := bne_eq_false_iff_eq.mpr c26
                    clear c26
                    by_cases c27 : t143 = a0
                    · rw [if_pos c27] at H
                      have c27b0 : (t143 == a0) = true := beq_iff_eq.mpr c27
                      have c27b1 : (t143 != a0) = false := bne_eq_false_iff_eq.mpr c27
                      clear c27
                      by_cases c28 : t146 = t148
                      · rw [if_pos c28] at H
                        have c28b0 : (t146 == t148) = true := beq_iff_eq.mpr c28
                        have c28b1 : (t146 != t148) = false := bne_eq_false_iff_eq.mpr c28
                        clear c28
                        obtain rfl := Option.some.inj H
                        have hcz29_0 : wc.cell? ⟨gb135, 0, none⟩ = some (.int .i64 a1_0) := (blk_cell BK135.out 0).trans rfl
                        have hcz29_1 : wc.cell? ⟨gb135, 1, none⟩ = some (.int .i64 a1_1) := (blk_cell BK135.out 1).trans rfl
                        have hcz29_2 : wc.cell? ⟨gb135, 2, none⟩ = some (.int .i64 a1_2) := (blk_cell BK135.out 2).trans rfl
                        have hcz29_3 : wc.cell? ⟨gb135, 3, none⟩ = some (.int .i64 a1_3) := (blk_cell BK135.out 3).trans rfl
                        have hfz29_0 := blk_frozen BK135.out 0
                        have hfz29_1 := blk_frozen BK135.out 1
                        have hfz29_2 := blk_frozen BK135.out 2
                        have hfz29_3 := blk_frozen BK135.out 3
                        go_wp2_with (first | ((with_reducible refine gate_callee (f := 11) rfl ?_); refine goesL_ (some 67) rfl rfl Try.func11 (by kernel_rfl) rfl #[.int .u64 t139, .int .i64 a1_0, .int .i64 a1_1] rfl (by (try simp only [List.map_toArray, List.map_cons, List.map_nil]); first | done | rfl | (simp only [List.length_drop, List.length_take]; rfl)) ?_; (with_reducible refine (words_Get.calls t139 a1_0 a1_1 t141 t142 _ A18.out).mono ?_); rintro e w' ⟨rfl, ⟨nd, rfl⟩⟩; refine ⟨_, rfl, ?_⟩) | ((with_reducible refine gate_callee (f := 13) rfl ?_); refine goesL_ (some 77) rfl rfl Try.func13 (by kernel_rfl) rfl #[.int .u64 t139, .int .i64 a1_0, .int .i64 a1_1, .int .u64 t137] rfl (by (try simp only [List.map_toArray, List.map_cons, List.map_nil]); first | done | rfl | (simp only [List.length_drop, List.length_take]; rfl)) ?_; (with_reducible refine (words_Put.calls t139 a1_0 a1_1 t137 t143 t144 _ A19.out).mono ?_); rintro e w' ⟨rfl, ⟨nd, rfl⟩⟩; refine ⟨_, rfl, ?_⟩) | ((with_reducible refine gate_callee (f := 11) rfl ?_); refine goesL_ (some 86) rfl rfl Try.func11 (by kernel_rfl) rfl #[.int .u64 a0, .int .i64 a1_2, .int .i64 a1_3] rfl (by (try simp only [List.map_toArray, List.map_cons, List.map_nil]); first | done | rfl | (simp only [List.length_drop, List.length_take]; rfl)) ?_; (with_reducible refine (words_Get.calls a0 a1_2 a1_3 t145 t146 _ A20.out).mono ?_); rintro e w' ⟨rfl, ⟨nd, rfl⟩⟩; refine ⟨_, rfl, ?_⟩) | ((with_reducible refine gate_callee (f := 11) rfl ?_); refine goesL_ (some 95) rfl rfl Try.func11 (by kernel_rfl) rfl #[.int .u64 t139, .int .i64 a1_2, .int .i64 a1_3] rfl (by (try simp only [List.map_toArray, List.map_cons, List.map_nil]); first | done | rfl | (simp only [List.length_drop, List.length_take]; rfl)) ?_; (with_reducible refine (words_Get.calls t139 a1_2 a1_3 t147 t148 _ A21.out).mono ?_); rintro e w' ⟨rfl, ⟨nd, rfl⟩⟩; refine ⟨_, rfl, ?_⟩))
                        go_ret
                        exact ⟨by first | rfl | (simp [errW_none, errW_some] <;> rfl) | (simp [*, errW_none, errW_some] <;> rfl), by repeat (first | (with_reducible first | exact HB.out | apply below_alloc | apply pw_below_drewN | apply below_drew1 | refine below_set ?_ GE135.out) | exact HB.out)⟩
                      · rw [if_neg c28] at H
                        have c28b0 : (t146 == t148) = false := beq_eq_false_iff_ne.mpr c28
                        have c28b1 : (t146 != t148) = true := bne_iff_ne.mpr c28
                        obtain rfl := Option.some.inj H
                        have hcz30_0 : wc.cell? ⟨gb135, 0, none⟩ = some (.int .i64 a1_0) := (blk_cell BK135.out 0).trans rfl
                        have hcz30_1 : wc.cell? ⟨gb135, 1, none⟩ = some (.int .i64 a1_1) := (blk_cell BK135.out 1).trans rfl
                        have hcz30_2 : wc.cell? ⟨gb135, 2, none⟩ = some (.int .i64 a1_2) := (blk_cell BK135.out 2).trans rfl
                        have hcz30_3 : wc.cell? ⟨gb135, 3, none⟩ = some (.int .i64 a1_3) := (blk_cell BK135.out 3).trans rfl
                        have hfz30_0 := blk_frozen BK135.out 0
                        have hfz30_1 := blk_frozen BK135.out 1
                        have hfz30_2 := blk_frozen BK135.out 2
                        have hfz30_3 := blk_frozen BK135.out 3
                        go_wp2_with (first | ((with_reducible refine gate_callee (f := 11) rfl ?_); refine goesL_ (some 67) rfl rfl Try.func11 (by kernel_rfl) rfl #[.int .u64 t139, .int .i64 a1_0, .int .i64 a1_1] rfl (by (try simp only [List.map_toArray, List.map_cons, List.map_nil]); first | done | rfl | (simp only [List.length_drop, List.length_take]; rfl)) ?_; (with_reducible refine (words_Get.calls t139 a1_0 a1_1 t141 t142 _ A18.out).mono ?_); rintro e w' ⟨rfl, ⟨nd, rfl⟩⟩; refine ⟨_, rfl, ?_⟩) | ((with_reducible refine gate_callee (f := 13) rfl ?_); refine goesL_ (some 77) rfl rfl Try.func13 (by kernel_rfl) rfl #[.int .u64 t139, .int .i64 a1_0, .int .i64 a1_1, .int .u64 t137] rfl (by (try simp only [List.map_toArray, List.map_cons, List.map_nil]); first | done | rfl | (simp only [List.length_drop, List.length_take]; rfl)) ?_; (with_reducible refine (words_Put.calls t139 a1_0 a1_1 t137 t143 t144 _ A19.out).mono ?_); rintro e w' ⟨rfl, ⟨nd, rfl⟩⟩; refine ⟨_, rfl, ?_⟩) | ((with_reducible refine gate_callee (f := 11) rfl ?_); refine goesL_ (some 86) rfl rfl Try.func11 (by kernel_rfl) rfl #[.int .u64 a0, .int .i64 a1_2, .int .i64 a1_3] rfl (by (try simp only [List.map_toArray, List.map_cons, List.map_nil]); first | done | rfl | (simp only [List.length_drop, List.length_take]; rfl)) ?_; (with_reducible refine (words_Get.calls a0 a1_2 a1_3 t145 t146 _ A20.out).mono ?_); rintro e w' ⟨rfl, ⟨nd, rfl⟩⟩; refine ⟨_, rfl, ?_⟩) | ((with_reducible refine gate_callee (f := 11) rfl ?_); refine goesL_ (some 95) rfl rfl Try.func11 (by kernel_rfl) rfl #[.int .u64 t139, .int .i64 a1_2, .int .i64 a1_3] rfl (by (try simp only [List.map_toArray, List.map_cons, List.map_nil]); first | done | rfl | (simp only [List.length_drop, List.length_take]; rfl)) ?_; (with_reducible refine (words_Get.calls t139 a1_2 a1_3 t147 t148 _ A21.out).mono ?_); rintro e w' ⟨rfl, ⟨nd, rfl⟩⟩; refine ⟨_, rfl, ?_⟩))
                        go_ret
                        exact ⟨by first | rfl | (simp [errW_none, errW_some] <;> rfl) | (simp [*, errW_none, errW_some] <;> rfl), by repeat (first | (with_reducible first | exact HB.out | apply below_alloc | apply pw_below_drewN | apply below_drew1 | refine below_set ?_ GE135.out) | exact HB.out)⟩
                    · rw [if_neg c27] at H
                      have c27b0 : (t143 == a0) = false := beq_eq_false_iff_ne.mpr c27
                      have c27b1 : (t143 != a0) = true := bne_iff_ne.mpr c27
                      obtain rfl := Option.some.inj H
                      have hcz31_0 : wc.cell? ⟨gb135, 0, none⟩ = some (.int .i64 a1_0) := (blk_cell BK135.out 0).trans rfl
                      have hcz31_1 : wc.cell? ⟨gb135, 1, none⟩ = some (.int .i64 a1_1) := (blk_cell BK135.out 1).trans rfl
                      have hcz31_2 : wc.cell? ⟨gb135, 2, none⟩ = some (.int .i64 a1_2) := (blk_cell BK135.out 2).trans rfl
                      have hcz31_3 : wc.cell? ⟨gb135, 3, none⟩ = some (.int .i64 a1_3) := (blk_cell BK135.out 3).trans rfl
                      have hfz31_0 := blk_frozen BK135.out 0
                      have hfz31_1 := blk_frozen BK135.out 1
                      have hfz31_2 := blk_frozen BK135.out 2
                      have hfz31_3 := blk_frozen BK135.out 3
                      go_wp2_with (first | ((with_reducible refine gate_callee (f := 11) rfl ?_); refine goesL_ (some 67) rfl rfl Try.func11 (by kernel_rfl) rfl #[.int .u64 t139, .int .i64 a1_0, .int .i64 a1_1] rfl (by (try simp only [List.map_toArray, List.map_cons, List.map_nil]); first | done | rfl | (simp only [List.length_drop, List.length_take]; rfl)) ?_; (with_reducible refine (words_Get.calls t139 a1_0 a1_1 t141 t142 _ A18.out).mono ?_); rintro e w' ⟨rfl, ⟨nd, rfl⟩⟩; refine ⟨_, rfl, ?_⟩) | ((with_reducible refine gate_callee (f := 13) rfl ?_); refine goesL_ (some 77) rfl rfl Try.func13 (by kernel_rfl) rfl #[.int .u64 t139, .int .i64 a1_0, .int .i64 a1_1, .int .u64 t137] rfl (by (try simp only [List.map_toArray, List.map_cons, List.map_nil]); first | done | rfl | (simp only [List.length_drop, List.length_take]; rfl)) ?_; (with_reducible refine (words_Put.calls t139 a1_0 a1_1 t137 t143 t144 _ A19.out).mono ?_); rintro e w' ⟨rfl, ⟨nd, rfl⟩⟩; refine ⟨_, rfl, ?_⟩) | ((with_reducible refine gate_callee (f := 11) rfl ?_); refine goesL_ (some 86) rfl rfl Try.func11 (by kernel_rfl) rfl #[.int .u64 a0, .int .i64 a1_2, .int .i64 a1_3] rfl (by (try simp only [List.map_toArray, List.map_cons, List.map_nil]); first | done | rfl | (simp only [List.length_drop, List.length_take]; rfl)) ?_; (with_reducible refine (words_Get.calls a0 a1_2 a1_3 t145 t146 _ A20.out).mono ?_); rintro e w' ⟨rfl, ⟨nd, rfl⟩⟩; refine ⟨_, rfl, ?_⟩) | ((with_reducible refine gate_callee (f := 11) rfl ?_); refine goesL_ (some 95) rfl rfl Try.func11 (by kernel_rfl) rfl #[.int .u64 t139, .int .i64 a1_2, .int .i64 a1_3] rfl (by (try simp only [List.map_toArray, List.map_cons, List.map_nil]); first | done | rfl | (simp only [List.length_drop, List.length_take]; rfl)) ?_; (with_reducible refine (words_Get.calls t139 a1_2 a1_3 t147 t148 _ A21.out).mono ?_); rintro e w' ⟨rfl, ⟨nd, rfl⟩⟩; refine ⟨_, rfl, ?_⟩))
                      go_ret
                      exact ⟨by first | rfl | (simp [errW_none, errW_some] <;> rfl) | (simp [*, errW_none, errW_some] <;> rfl), by repeat (first | (with_reducible first | exact HB.out | apply below_alloc | apply pw_below_drewN | apply below_drew1 | refine below_set ?_ GE135.out) | exact HB.out)⟩
                  · rw [if_neg c26] at H
                    have c26b0 : (t144 == 0) = false := beq_eq_false_iff_ne.mpr c26
                    have c26b1 : (t144 != 0) = true := bne_iff_ne.mpr c26
                    obtain rfl := Option.some.inj H
                    have hcz32_0 : wc.cell? ⟨gb135, 0, none⟩ = some (.int .i64 a1_0) := (blk_cell BK135.out 0).trans rfl
                    have hcz32_1 : wc.cell? ⟨gb135, 1, none⟩ = some (.int .i64 a1_1) := (blk_cell BK135.out 1).trans rfl
                    have hcz32_2 : wc.cell? ⟨gb135, 2, none⟩ = some (.int .i64 a1_2) := (blk_cell BK135.out 2).trans rfl
                    have hcz32_3 : wc.cell? ⟨gb135, 3, none⟩ = some (.int .i64 a1_3) := (blk_cell BK135.out 3).trans rfl
                    have hfz32_0 := blk_frozen BK135.out 0
                    have hfz32_1 := blk_frozen BK135.out 1
                    have hfz32_2 := blk_frozen BK135.out 2
                    have hfz32_3 := blk_frozen BK135.out 3
                    go_wp2_with (first | ((with_reducible refine gate_callee (f := 11) rfl ?_); refine goesL_ (some 67) rfl rfl Try.func11 (by kernel_rfl) rfl #[.int .u64 t139, .int .i64 a1_0, .int .i64 a1_1] rfl (by (try simp only [List.map_toArray, List.map_cons, List.map_nil]); first | done | rfl | (simp only [List.length_drop, List.length_take]; rfl)) ?_; (with_reducible refine (words_Get.calls t139 a1_0 a1_1 t141 t142 _ A18.out).mono ?_); rintro e w' ⟨rfl, ⟨nd, rfl⟩⟩; refine ⟨_, rfl, ?_⟩) | ((with_reducible refine gate_callee (f := 13) rfl ?_); refine goesL_ (some 77) rfl rfl Try.func13 (by kernel_rfl) rfl #[.int .u64 t139, .int .i64 a1_0, .int .i64 a1_1, .int .u64 t137] rfl (by (try simp only [List.map_toArray, List.map_cons, List.map_nil]); first | done | rfl | (simp only [List.length_drop, List.length_take]; rfl)) ?_; (with_reducible refine (words_Put.calls t139 a1_0 a1_1 t137 t143 t144 _ A19.out).mono ?_); rintro e w' ⟨rfl, ⟨nd, rfl⟩⟩; refine ⟨_, rfl, ?_⟩) | ((with_reducible refine gate_callee (f := 11) rfl ?_); refine goesL_ (some 86) rfl rfl Try.func11 (by kernel_rfl) rfl #[.int .u64 a0, .int .i64 a1_2, .int .i64 a1_3] rfl (by (try simp only [List.map_toArray, List.map_cons, List.map_nil]); first | done | rfl | (simp only [List.length_drop, List.length_take]; rfl)) ?_; (with_reducible refine (words_Get.calls a0 a1_2 a1_3 t145 t146 _ A20.out).mono ?_); rintro e w' ⟨rfl, ⟨nd, rfl⟩⟩; refine ⟨_, rfl, ?_⟩) | ((with_reducible refine gate_callee (f := 11) rfl ?_); refine goesL_ (some 95) rfl rfl Try.func11 (by kernel_rfl) rfl #[.int .u64 t139, .int .i64 a1_2, .int .i64 a1_3] rfl (by (try simp only [List.map_toArray, List.map_cons, List.map_nil]); first | done | rfl | (simp only [List.length_drop, List.length_take]; rfl)) ?_; (with_reducible refine (words_Get.calls t139 a1_2 a1_3 t147 t148 _ A21.out).mono ?_); rintro e w' ⟨rfl, ⟨nd, rfl⟩⟩; refine ⟨_, rfl, ?_⟩))
                    go_ret
                    exact ⟨by first | rfl | (simp [errW_none, errW_some] <;> rfl) | (simp [*, errW_none, errW_some] <;> rfl), by repeat (first | (with_reducible first | exact HB.out | apply below_alloc | apply pw_below_drewN | apply below_drew1 | refine below_set ?_ GE135.out) | exact HB.out)⟩
                · rw [if_neg c25] at H
                  have c25b0 : (t141 == a2) = false := beq_eq_false_iff_ne.mpr c25
                  have c25b1 : (t141 != a2) = true := bne_iff_ne.mpr c25
                  obtain rfl := Option.some.inj H
                  have hcz33_0 : wc.cell? ⟨gb135, 0, none⟩ = some (.int .i64 a1_0) := (blk_cell BK135.out 0).trans rfl
                  have hcz33_1 : wc.cell? ⟨gb135, 1, none⟩ = some (.int .i64 a1_1) := (blk_cell BK135.out 1).trans rfl
                  have hcz33_2 : wc.cell? ⟨gb135, 2, none⟩ = some (.int .i64 a1_2) := (blk_cell BK135.out 2).trans rfl
                  have hcz33_3 : wc.cell? ⟨gb135, 3, none⟩ = some (.int .i64 a1_3) := (blk_cell BK135.out 3).trans rfl
                  have hfz33_0 := blk_frozen BK135.out 0
                  have hfz33_1 := blk_frozen BK135.out 1
                  have hfz33_2 := blk_frozen BK135.out 2
                  have hfz33_3 := blk_frozen BK135.out 3
                  go_wp2_with (first | ((with_reducible refine gate_callee (f := 11) rfl ?_); refine goesL_ (some 67) rfl rfl Try.func11 (by kernel_rfl) rfl #[.int .u64 t139, .int .i64 a1_0, .int .i64 a1_1] rfl (by (try simp only [List.map_toArray, List.map_cons, List.map_nil]); first | done | rfl | (simp only [List.length_drop, List.length_take]; rfl)) ?_; (with_reducible refine (words_Get.calls t139 a1_0 a1_1 t141 t142 _ A18.out).mono ?_); rintro e w' ⟨rfl, ⟨nd, rfl⟩⟩; refine ⟨_, rfl, ?_⟩) | ((with_reducible refine gate_callee (f := 13) rfl ?_); refine goesL_ (some 77) rfl rfl Try.func13 (by kernel_rfl) rfl #[.int .u64 t139, .int .i64 a1_0, .int .i64 a1_1, .int .u64 t137] rfl (by (try simp only [List.map_toArray, List.map_cons, List.map_nil]); first | done | rfl | (simp only [List.length_drop, List.length_take]; rfl)) ?_; (with_reducible refine (words_Put.calls t139 a1_0 a1_1 t137 t143 t144 _ A19.out).mono ?_); rintro e w' ⟨rfl, ⟨nd, rfl⟩⟩; refine ⟨_, rfl, ?_⟩) | ((with_reducible refine gate_callee (f := 11) rfl ?_); refine goesL_ (some 86) rfl rfl Try.func11 (by kernel_rfl) rfl #[.int .u64 a0, .int .i64 a1_2, .int .i64 a1_3] rfl (by (try simp only [List.map_toArray, List.map_cons, List.map_nil]); first | done | rfl | (simp only [List.length_drop, List.length_take]; rfl)) ?_; (with_reducible refine (words_Get.calls a0 a1_2 a1_3 t145 t146 _ A20.out).mono ?_); rintro e w' ⟨rfl, ⟨nd, rfl⟩⟩; refine ⟨_, rfl, ?_⟩) | ((with_reducible refine gate_callee (f := 11) rfl ?_); refine goesL_ (some 95) rfl rfl Try.func11 (by kernel_rfl) rfl #[.int .u64 t139, .int .i64 a1_2, .int .i64 a1_3] rfl (by (try simp only [List.map_toArray, List.map_cons, List.map_nil]); first | done | rfl | (simp only [List.length_drop, List.length_take]; rfl)) ?_; (with_reducible refine (words_Get.calls t139 a1_2 a1_3 t147 t148 _ A21.out).mono ?_); rintro e w' ⟨rfl, ⟨nd, rfl⟩⟩; refine ⟨_, rfl, ?_⟩))
                  go_ret
                  exact ⟨by first | rfl | (simp [errW_none, errW_some] <;> rfl) | (simp [*, errW_none, errW_some] <;> rfl), by repeat (first | (with_reducible first | exact HB.out | apply below_alloc | apply pw_below_drewN | apply below_drew1 | refine below_set ?_ GE135.out) | exact HB.out)⟩
              · rw [if_neg c24] at H
                have c24b0 : (t142 == 0) = false := beq_eq_false_iff_ne.mpr c24
                have c24b1 : (t142 != 0) = true := bne_iff_ne.mpr c24
                obtain rfl := Option.some.inj H
                have hcz34_0 : wc.cell? ⟨gb135, 0, none⟩ = some (.int .i64 a1_0) := (blk_cell BK135.out 0).trans rfl
                have hcz34_1 : wc.cell? ⟨gb135, 1, none⟩ = some (.int .i64 a1_1) := (blk_cell BK135.out 1).trans rfl
                have hcz34_2 : wc.cell? ⟨gb135, 2, none⟩ = some (.int .i64 a1_2) := (blk_cell BK135.out 2).trans rfl
                have hcz34_3 : wc.cell? ⟨gb135, 3, none⟩ = some (.int .i64 a1_3) := (blk_cell BK135.out 3).trans rfl
                have hfz34_0 := blk_frozen BK135.out 0
                have hfz34_1 := blk_frozen BK135.out 1
                have hfz34_2 := blk_frozen BK135.out 2
                have hfz34_3 := blk_frozen BK135.out 3
                go_wp2_with (first | ((with_reducible refine gate_callee (f := 11) rfl ?_); refine goesL_ (some 67) rfl rfl Try.func11 (by kernel_rfl) rfl #[.int .u64 t139, .int .i64 a1_0, .int .i64 a1_1] rfl (by (try simp only [List.map_toArray, List.map_cons, List.map_nil]); first | done | rfl | (simp only [List.length_drop, List.length_take]; rfl)) ?_; (with_reducible refine (words_Get.calls t139 a1_0 a1_1 t141 t142 _ A18.out).mono ?_); rintro e w' ⟨rfl, ⟨nd, rfl⟩⟩; refine ⟨_, rfl, ?_⟩) | ((with_reducible refine gate_callee (f := 13) rfl ?_); refine goesL_ (some 77) rfl rfl Try.func13 (by kernel_rfl) rfl #[.int .u64 t139, .int .i64 a1_0, .int .i64 a1_1, .int .u64 t137] rfl (by (try simp only [List.map_toArray, List.map_cons, List.map_nil]); first | done | rfl | (simp only [List.length_drop, List.length_take]; rfl)) ?_; (with_reducible refine (words_Put.calls t139 a1_0 a1_1 t137 t143 t144 _ A19.out).mono ?_); rintro e w' ⟨rfl, ⟨nd, rfl⟩⟩; refine ⟨_, rfl, ?_⟩) | ((with_reducible refine gate_callee (f := 11) rfl ?_); refine goesL_ (some 86) rfl rfl Try.func11 (by kernel_rfl) rfl #[.int .u64 a0, .int .i64 a1_2, .int .i64 a1_3] rfl (by (try simp only [List.map_toArray, List.map_cons, List.map_nil]); first | done | rfl | (simp only [List.length_drop, List.length_take]; rfl)) ?_; (with_reducible refine (words_Get.calls a0 a1_2 a1_3 t145 t146 _ A20.out).mono ?_); rintro e w' ⟨rfl, ⟨nd, rfl⟩⟩; refine ⟨_, rfl, ?_⟩) | ((with_reducible refine gate_callee (f := 11) rfl ?_); refine goesL_ (some 95) rfl rfl Try.func11 (by kernel_rfl) rfl #[.int .u64 t139, .int .i64 a1_2, .int .i64 a1_3] rfl (by (try simp only [List.map_toArray, List.map_cons, List.map_nil]); first | done | rfl | (simp only [List.length_drop, List.length_take]; rfl)) ?_; (with_reducible refine (words_Get.calls t139 a1_2 a1_3 t147 t148 _ A21.out).mono ?_); rintro e w' ⟨rfl, ⟨nd, rfl⟩⟩; refine ⟨_, rfl, ?_⟩))
                go_ret
                exact ⟨by first | rfl | (simp [errW_none, errW_some] <;> rfl) | (simp [*, errW_none, errW_some] <;> rfl), by repeat (first | (with_reducible first | exact HB.out | apply below_alloc | apply pw_below_drewN | apply below_drew1 | refine below_set ?_ GE135.out) | exact HB.out)⟩
            · rw [if_neg c23] at H
              have c23b0 : decide ((wrap64 (a1_2 + a1_3)) ≤ a1_0) = false := decide_eq_false c23
              clear c23
              by_cases c35 : t142 = 0
              · rw [if_pos c35] at H
                have c35b0 : (t142 == 0) = true := beq_iff_eq.mpr c35
                have c35b1 : (t142 != 0) = false := bne_eq_false_iff_eq.mpr c35
                clear c35
                by_cases c36 : t141 = a2
                · rw [if_pos c36] at H
                  have c36b0 : (t141 == a2) = true := beq_iff_eq.mpr c36
                  have c36b1 : (t141 != a2) = false := bne_eq_false_iff_eq.mpr c36
                  clear c36
                  by_cases c37 : t144 = 0
                  · rw [if_pos c37] at H
                    have c37b0 : (t144 == 0) = true := beq_iff_eq.mpr c37
                    have c37b1 : (t144 != 0) = false := bne_eq_false_iff_eq.mpr c37
                    clear c37
                    by_cases c38 : t143 = a0
                    · rw [if_pos c38] at H
                      have c38b0 : (t143 == a0) = true := beq_iff_eq.mpr c38
                      have c38b1 : (t143 != a0) = false := bne_eq_false_iff_eq.mpr c38
                      clear c38
                      by_cases c39 : t146 = t148
                      · rw [if_pos c39] at H
                        have c39b0 : (t146 == t148) = true := beq_iff_eq.mpr c39
                        have c39b1 : (t146 != t148) = false := bne_eq_false_iff_eq.mpr c39
                        clear c39
                        by_cases c40 : ((wrap64 (a1_0 + a1_1)) ≤ a1_2)
                        · rw [if_pos c40] at H
                          have c40b0 : decide ((wrap64 (a1_0 + a1_1)) ≤ a1_2) = true := decide_eq_true c40
                          clear c40
                          obtain rfl := Option.some.inj H
                          have hcz41_0 : wc.cell? ⟨gb135, 0, none⟩ = some (.int .i64 a1_0) := (blk_cell BK135.out 0).trans rfl
                          have hcz41_1 : wc.cell? ⟨gb135, 1, none⟩ = some (.int .i64 a1_1) := (blk_cell BK135.out 1).trans rfl
                          have hcz41_2 : wc.cell? ⟨gb135, 2, none⟩ = some (.int .i64 a1_2) := (blk_cell BK135.out 2).trans rfl
                          have hcz41_3 : wc.cell? ⟨gb135, 3, none⟩ = some (.int .i64 a1_3) := (blk_cell BK135.out 3).trans rfl
                          have hfz41_0 := blk_frozen BK135.out 0
                          have hfz41_1 := blk_frozen BK135.out 1
                          have hfz41_2 := blk_frozen BK135.out 2
                          have hfz41_3 := blk_frozen BK135.out 3
                          go_wp2_with (first | ((with_reducible refine gate_callee (f := 11) rfl ?_); refine goesL_ (some 67) rfl rfl Try.func11 (by kernel_rfl) rfl #[.int .u64 t139, .int .i64 a1_0, .int .i64 a1_1] rfl (by (try simp only [List.map_toArray, List.map_cons, List.map_nil]); first | done | rfl | (simp only [List.length_drop, List.length_take]; rfl)) ?_; (with_reducible refine (words_Get.calls t139 a1_0 a1_1 t141 t142 _ A18.out).mono ?_); rintro e w' ⟨rfl, ⟨nd, rfl⟩⟩; refine ⟨_, rfl, ?_⟩) | ((with_reducible refine gate_callee (f := 13) rfl ?_); refine goesL_ (some 77) rfl rfl Try.func13 (by kernel_rfl) rfl #[.int .u64 t139, .int .i64 a1_0, .int .i64 a1_1, .int .u64 t137] rfl (by (try simp only [List.map_toArray, List.map_cons, List.map_nil]); first | done | rfl | (simp only [List.length_drop, List.length_take]; rfl)) ?_; (with_reducible refine (words_Put.calls t139 a1_0 a1_1 t137 t143 t144 _ A19.out).mono ?_); rintro e w' ⟨rfl, ⟨nd, rfl⟩⟩; refine ⟨_, rfl, ?_⟩) | ((with_reducible refine gate_callee (f := 11) rfl ?_); refine goesL_ (some 86) rfl rfl Try.func11 (by kernel_rfl) rfl #[.int .u64 a0, .int .i64 a1_2, .int .i64 a1_3] rfl (by (try simp only [List.map_toArray, List.map_cons, List.map_nil]); first | done | rfl | (simp only [List.length_drop, List.length_take]; rfl)) ?_; (with_reducible refine (words_Get.calls a0 a1_2 a1_3 t145 t146 _ A20.out).mono ?_); rintro e w' ⟨rfl, ⟨nd, rfl⟩⟩; refine ⟨_, rfl, ?_⟩) | ((with_reducible refine gate_callee (f := 11) rfl ?_); refine goesL_ (some 95) rfl rfl Try.func11 (by kernel_rfl) rfl #[.int .u64 t139, .int .i64 a1_2, .int .i64 a1_3] rfl (by (try simp only [List.map_toArray, List.map_cons, List.map_nil]); first | done | rfl | (simp only [List.length_drop, List.length_take]; rfl)) ?_; (with_reducible refine (words_Get.calls t139 a1_2 a1_3 t147 t148 _ A21.out).mono ?_); rintro e w' ⟨rfl, ⟨nd, rfl⟩⟩; refine ⟨_, rfl, ?_⟩))
                          go_ret
                          exact ⟨by first | rfl | (simp [errW_none, errW_some] <;> rfl) | (simp [*, errW_none, errW_some] <;> rfl), by repeat (first | (with_reducible first | exact HB.out | apply below_alloc | apply pw_below_drewN | apply below_drew1 | refine below_set ?_ GE135.out) | exact HB.out)⟩
                        · rw [if_neg c40] at H
                          have c40b0 : decide ((wrap64 (a1_0 + a1_1)) ≤ a1_2) = false := decide_eq_false c40
                          clear c40
                          obtain rfl := Option.some.inj H
                          have hcz42_0 : wc.cell? ⟨gb135, 0, none⟩ = some (.int .i64 a1_0) := (blk_cell BK135.out 0).trans rfl
                          have hcz42_1 : wc.cell? ⟨gb135, 1, none⟩ = some (.int .i64 a1_1) := (blk_cell BK135.out 1).trans rfl
                          have hcz42_2 : wc.cell? ⟨gb135, 2, none⟩ = some (.int .i64 a1_2) := (blk_cell BK135.out 2).trans rfl
                          have hcz42_3 : wc.cell? ⟨gb135, 3, none⟩ = some (.int .i64 a1_3) := (blk_cell BK135.out 3).trans rfl
                          have hfz42_0 := blk_frozen BK135.out 0
                          have hfz42_1 := blk_frozen BK135.out 1
                          have hfz42_2 := blk_frozen BK135.out 2
                          have hfz42_3 := blk_frozen BK135.out 3
                          go_wp2_with (first | ((with_reducible refine gate_callee (f := 11) rfl ?_); refine goesL_ (some 67) rfl rfl Try.func11 (by kernel_rfl) rfl #[.int .u64 t139, .int .i64 a1_0, .int .i64 a1_1] rfl (by (try simp only [List.map_toArray, List.map_cons, List.map_nil]); first | done | rfl | (simp only [List.length_drop, List.length_take]; rfl)) ?_; (with_reducible refine (words_Get.calls t139 a1_0 a1_1 t141 t142 _ A18.out).mono ?_); rintro e w' ⟨rfl, ⟨nd, rfl⟩⟩; refine ⟨_, rfl, ?_⟩) | ((with_reducible refine gate_callee (f := 13) rfl ?_); refine goesL_ (some 77) rfl rfl Try.func13 (by kernel_rfl) rfl #[.int .u64 t139, .int .i64 a1_0, .int .i64 a1_1, .int .u64 t137] rfl (by (try simp only [List.map_toArray, List.map_cons, List.map_nil]); first | done | rfl | (simp only [List.length_drop, List.length_take]; rfl)) ?_; (with_reducible refine (words_Put.calls t139 a1_0 a1_1 t137 t143 t144 _ A19.out).mono ?_); rintro e w' ⟨rfl, ⟨nd, rfl⟩⟩; refine ⟨_, rfl, ?_⟩) | ((with_reducible refine gate_callee (f := 11) rfl ?_); refine goesL_ (some 86) rfl rfl Try.func11 (by kernel_rfl) rfl #[.int .u64 a0, .int .i64 a1_2, .int .i64 a1_3] rfl (by (try simp only [List.map_toArray, List.map_cons, List.map_nil]); first | done | rfl | (simp only [List.length_drop, List.length_take]; rfl)) ?_; (with_reducible refine (words_Get.calls a0 a1_2 a1_3 t145 t146 _ A20.out).mono ?_); rintro e w' ⟨rfl, ⟨nd, rfl⟩⟩; refine ⟨_, rfl, ?_⟩) | ((with_reducible refine gate_callee (f := 11) rfl ?_); refine goesL_ (some 95) rfl rfl Try.func11 (by kernel_rfl) rfl #[.int .u64 t139, .int .i64 a1_2, .int .i64 a1_3] rfl (by (try simp only [List.map_toArray, List.map_cons, List.map_nil]); first | done | rfl | (simp only [List.length_drop, List.length_take]; rfl)) ?_; (with_reducible refine (words_Get.calls t139 a1_2 a1_3 t147 t148 _ A21.out).mono ?_); rintro e w' ⟨rfl, ⟨nd, rfl⟩⟩; refine ⟨_, rfl, ?_⟩))
                          go_ret
                          exact ⟨by first | rfl | (simp [errW_none, errW_some] <;> rfl) | (simp [*, errW_none, errW_some] <;> rfl), by repeat (first | (with_reducible first | exact HB.out | apply below_alloc | apply pw_below_drewN | apply below_drew1 | refine below_set ?_ GE135.out) | exact HB.out)⟩
                      · rw [if_neg c39] at H
                        have c39b0 : (t146 == t148) = false := beq_eq_false_iff_ne.mpr c39
                        have c39b1 : (t146 != t148) = true := bne_iff_ne.mpr c39
                        obtain rfl := Option.some.inj H
                        have hcz43_0 : wc.cell? ⟨gb135, 0, none⟩ = some (.int .i64 a1_0) := (blk_cell BK135.out 0).trans rfl
                        have hcz43_1 : wc.cell? ⟨gb135, 1, none⟩ = some (.int .i64 a1_1) := (blk_cell BK135.out 1).trans rfl
                        have hcz43_2 : wc.cell? ⟨gb135, 2, none⟩ = some (.int .i64 a1_2) := (blk_cell BK135.out 2).trans rfl
                        have hcz43_3 : wc.cell? ⟨gb135, 3, none⟩ = some (.int .i64 a1_3) := (blk_cell BK135.out 3).trans rfl
                        have hfz43_0 := blk_frozen BK135.out 0
                        have hfz43_1 := blk_frozen BK135.out 1
                        have hfz43_2 := blk_frozen BK135.out 2
                        have hfz43_3 := blk_frozen BK135.out 3
                        go_wp2_with (first | ((with_reducible refine gate_callee (f := 11) rfl ?_); refine goesL_ (some 67) rfl rfl Try.func11 (by kernel_rfl) rfl #[.int .u64 t139, .int .i64 a1_0, .int .i64 a1_1] rfl (by (try simp only [List.map_toArray, List.map_cons, List.map_nil]); first | done | rfl | (simp only [List.length_drop, List.length_take]; rfl)) ?_; (with_reducible refine (words_Get.calls t139 a1_0 a1_1 t141 t142 _ A18.out).mono ?_); rintro e w' ⟨rfl, ⟨nd, rfl⟩⟩; refine ⟨_, rfl, ?_⟩) | ((with_reducible refine gate_callee (f := 13) rfl ?_); refine goesL_ (some 77) rfl rfl Try.func13 (by kernel_rfl) rfl #[.int .u64 t139, .int .i64 a1_0, .int .i64 a1_1, .int .u64 t137] rfl (by (try simp only [List.map_toArray, List.map_cons, List.map_nil]); first | done | rfl | (simp only [List.length_drop, List.length_take]; rfl)) ?_; (with_reducible refine (words_Put.calls t139 a1_0 a1_1 t137 t143 t144 _ A19.out).mono ?_); rintro e w' ⟨rfl, ⟨nd, rfl⟩⟩; refine ⟨_, rfl, ?_⟩) | ((with_reducible refine gate_callee (f := 11) rfl ?_); refine goesL_ (some 86) rfl rfl Try.func11 (by kernel_rfl) rfl #[.int .u64 a0, .int .i64 a1_2, .int .i64 a1_3] rfl (by (try simp only [List.map_toArray, List.map_cons, List.map_nil]); first | done | rfl | (simp only [List.length_drop, List.length_take]; rfl)) ?_; (with_reducible refine (words_Get.calls a0 a1_2 a1_3 t145 t146 _ A20.out).mono ?_); rintro e w' ⟨rfl, ⟨nd, rfl⟩⟩; refine ⟨_, rfl, ?_⟩) | ((with_reducible refine gate_callee (f := 11) rfl ?_); refine goesL_ (some 95) rfl rfl Try.func11 (by kernel_rfl) rfl #[.int .u64 t139, .int .i64 a1_2, .int .i64 a1_3] rfl (by (try simp only [List.map_toArray, List.map_cons, List.map_nil]); first | done | rfl | (simp only [List.length_drop, List.length_take]; rfl)) ?_; (with_reducible refine (words_Get.calls t139 a1_2 a1_3 t147 t148 _ A21.out).mono ?_); rintro e w' ⟨rfl, ⟨nd, rfl⟩⟩; refine ⟨_, rfl, ?_⟩))
                        go_ret
                        exact ⟨by first | rfl | (simp [errW_none, errW_some] <;> rfl) | (simp [*, errW_none, errW_some] <;> rfl), by repeat (first | (with_reducible first | exact HB.out | apply below_alloc | apply pw_below_drewN | apply below_drew1 | refine below_set ?_ GE135.out) | exact HB.out)⟩
                    · rw [if_neg c38] at H
                      have c38b0 : (t143 == a0) = false := beq_eq_false_iff_ne.mpr c38
                      have c38b1 : (t143 != a0) = true := bne_iff_ne.mpr c38
                      obtain rfl := Option.some.inj H
                      have hcz44_0 : wc.cell? ⟨gb135, 0, none⟩ = some (.int .i64 a1_0) := (blk_cell BK135.out 0).trans rfl
                      have hcz44_1 : wc.cell? ⟨gb135, 1, none⟩ = some (.int .i64 a1_1) := (blk_cell BK135.out 1).trans rfl
                      have hcz44_2 : wc.cell? ⟨gb135, 2, none⟩ = some (.int .i64 a1_2) := (blk_cell BK135.out 2).trans rfl
                      have hcz44_3 : wc.cell? ⟨gb135, 3, none⟩ = some (.int .i64 a1_3) := (blk_cell BK135.out 3).trans rfl
                      have hfz44_0 := blk_frozen BK135.out 0
                      have hfz44_1 := blk_frozen BK135.out 1
                      have hfz44_2 := blk_frozen BK135.out 2
                      have hfz44_3 := blk_frozen BK135.out 3
                      go_wp2_with (first | ((with_reducible refine gate_callee (f := 11) rfl ?_); refine goesL_ (some 67) rfl rfl Try.func11 (by kernel_rfl) rfl #[.int .u64 t139, .int .i64 a1_0, .int .i64 a1_1] rfl (by (try simp only [List.map_toArray, List.map_cons, List.map_nil]); first | done | rfl | (simp only [List.length_drop, List.length_take]; rfl)) ?_; (with_reducible refine (words_Get.calls t139 a1_0 a1_1 t141 t142 _ A18.out).mono ?_); rintro e w' ⟨rfl, ⟨nd, rfl⟩⟩; refine ⟨_, rfl, ?_⟩) | ((with_reducible refine gate_callee (f := 13) rfl ?_); refine goesL_ (some 77) rfl rfl Try.func13 (by kernel_rfl) rfl #[.int .u64 t139, .int .i64 a1_0, .int .i64 a1_1, .int .u64 t137] rfl (by (try simp only [List.map_toArray, List.map_cons, List.map_nil]); first | done | rfl | (simp only [List.length_drop, List.length_take]; rfl)) ?_; (with_reducible refine (words_Put.calls t139 a1_0 a1_1 t137 t143 t144 _ A19.out).mono ?_); rintro e w' ⟨rfl, ⟨nd, rfl⟩⟩; refine ⟨_, rfl, ?_⟩) | ((with_reducible refine gate_callee (f := 11) rfl ?_); refine goesL_ (some 86) rfl rfl Try.func11 (by kernel_rfl) rfl #[.int .u64 a0, .int .i64 a1_2, .int .i64 a1_3] rfl (by (try simp only [List.map_toArray, List.map_cons, List.map_nil]); first | done | rfl | (simp only [List.length_drop, List.length_take]; rfl)) ?_; (with_reducible refine (words_Get.calls a0 a1_2 a1_3 t145 t146 _ A20.out).mono ?_); rintro e w' ⟨rfl, ⟨nd, rfl⟩⟩; refine ⟨_, rfl, ?_⟩) | ((with_reducible refine gate_callee (f := 11) rfl ?_); refine goesL_ (some 95) rfl rfl Try.func11 (by kernel_rfl) rfl #[.int .u64 t139, .int .i64 a1_2, .int .i64 a1_3] rfl (by (try simp only [List.map_toArray, List.map_cons, List.map_nil]); first | done | rfl | (simp only [List.length_drop, List.length_take]; rfl)) ?_; (with_reducible refine (words_Get.calls t139 a1_2 a1_3 t147 t148 _ A21.out).mono ?_); rintro e w' ⟨rfl, ⟨nd, rfl⟩⟩; refine ⟨_, rfl, ?_⟩))
                      go_ret
                      exact ⟨by first | rfl | (simp [errW_none, errW_some] <;> rfl) | (simp [*, errW_none, errW_some] <;> rfl), by repeat (first | (with_reducible first | exact HB.out | apply below_alloc | apply pw_below_drewN | apply below_drew1 | refine below_set ?_ GE135.out) | exact HB.out)⟩
                  · rw [if_neg c37] at H
                    have c37b0 : (t144 == 0) = false := beq_eq_false_iff_ne.mpr c37
                    have c37b1 : (t144 != 0) = true := bne_iff_ne.mpr c37
                    obtain rfl := Option.some.inj H
                    have hcz45_0 : wc.cell? ⟨gb135, 0, none⟩ = some (.int .i64 a1_0) := (blk_cell BK135.out 0).trans rfl
                    have hcz45_1 : wc.cell? ⟨gb135, 1, none⟩ = some (.int .i64 a1_1) := (blk_cell BK135.out 1).trans rfl
                    have hcz45_2 : wc.cell? ⟨gb135, 2, none⟩ = some (.int .i64 a1_2) := (blk_cell BK135.out 2).trans rfl
                    have hcz45_3 : wc.cell? ⟨gb135, 3, none⟩ = some (.int .i64 a1_3) := (blk_cell BK135.out 3).trans rfl
                    have hfz45_0 := blk_frozen BK135.out 0
                    have hfz45_1 := blk_frozen BK135.out 1
                    have hfz45_2 := blk_frozen BK135.out 2
                    have hfz45_3 := blk_frozen BK135.out 3
                    go_wp2_with (first | ((with_reducible refine gate_callee (f := 11) rfl ?_); refine goesL_ (some 67) rfl rfl Try.func11 (by kernel_rfl) rfl #[.int .u64 t139, .int .i64 a1_0, .int .i64 a1_1] rfl (by (try simp only [List.map_toArray, List.map_cons, List.map_nil]); first | done | rfl | (simp only [List.length_drop, List.length_take]; rfl)) ?_; (with_reducible refine (words_Get.calls t139 a1_0 a1_1 t141 t142 _ A18.out).mono ?_); rintro e w' ⟨rfl, ⟨nd, rfl⟩⟩; refine ⟨_, rfl, ?_⟩) | ((with_reducible refine gate_callee (f := 13) rfl ?_); refine goesL_ (some 77) rfl rfl Try.func13 (by kernel_rfl) rfl #[.int .u64 t139, .int .i64 a1_0, .int .i64 a1_1, .int .u64 t137] rfl (by (try simp only [List.map_toArray, List.map_cons, List.map_nil]); first | done | rfl | (simp only [List.length_drop, List.length_take]; rfl)) ?_; (with_reducible refine (words_Put.calls t139 a1_0 a1_1 t137 t143 t144 _ A19.out).mono ?_); rintro e w' ⟨rfl, ⟨nd, rfl⟩⟩; refine ⟨_, rfl, ?_⟩) | ((with_reducible refine gate_callee (f := 11) rfl ?_); refine goesL_ (some 86) rfl rfl Try.func11 (by kernel_rfl) rfl #[.int .u64 a0, .int .i64 a1_2, .int .i64 a1_3] rfl (by (try simp only [List.map_toArray, List.map_cons, List.map_nil]); first | done | rfl | (simp only [List.length_drop, List.length_take]; rfl)) ?_; (with_reducible refine (words_Get.calls a0 a1_2 a1_3 t145 t146 _ A20.out).mono ?_); rintro e w' ⟨rfl, ⟨nd, rfl⟩⟩; refine ⟨_, rfl, ?_⟩) | ((with_reducible refine gate_callee (f := 11) rfl ?_); refine goesL_ (some 95) rfl rfl Try.func11 (by kernel_rfl) rfl #[.int .u64 t139, .int .i64 a1_2, .int .i64 a1_3] rfl (by (try simp only [List.map_toArray, List.map_cons, List.map_nil]); first | done | rfl | (simp only [List.length_drop, List.length_take]; rfl)) ?_; (with_reducible refine (words_Get.calls t139 a1_2 a1_3 t147 t148 _ A21.out).mono ?_); rintro e w' ⟨rfl, ⟨nd, rfl⟩⟩; refine ⟨_, rfl, ?_⟩))
                    go_ret
                    exact ⟨by first | rfl | (simp [errW_none, errW_some] <;> rfl) | (simp [*, errW_none, errW_some] <;> rfl), by repeat (first | (with_reducible first | exact HB.out | apply below_alloc | apply pw_below_drewN | apply below_drew1 | refine below_set ?_ GE135.out) | exact HB.out)⟩
                · rw [if_neg c36] at H
                  have c36b0 : (t141 == a2) = false := beq_eq_false_iff_ne.mpr c36
                  have c36b1 : (t141 != a2) = true := bne_iff_ne.mpr c36
                  obtain rfl := Option.some.inj H
                  have hcz46_0 : wc.cell? ⟨gb135, 0, none⟩ = some (.int .i64 a1_0) := (blk_cell BK135.out 0).trans rfl
                  have hcz46_1 : wc.cell? ⟨gb135, 1, none⟩ = some (.int .i64 a1_1) := (blk_cell BK135.out 1).trans rfl
                  have hcz46_2 : wc.cell? ⟨gb135, 2, none⟩ = some (.int .i64 a1_2) := (blk_cell BK135.out 2).trans rfl
                  have hcz46_3 : wc.cell? ⟨gb135, 3, none⟩ = some (.int .i64 a1_3) := (blk_cell BK135.out 3).trans rfl
                  have hfz46_0 := blk_frozen BK135.out 0
                  have hfz46_1 := blk_frozen BK135.out 1
                  have hfz46_2 := blk_frozen BK135.out 2
                  have hfz46_3 := blk_frozen BK135.out 3
                  go_wp2_with (first | ((with_reducible refine gate_callee (f := 11) rfl ?_); refine goesL_ (some 67) rfl rfl Try.func11 (by kernel_rfl) rfl #[.int .u64 t139, .int .i64 a1_0, .int .i64 a1_1] rfl (by (try simp only [List.map_toArray, List.map_cons, List.map_nil]); first | done | rfl | (simp only [List.length_drop, List.length_take]; rfl)) ?_; (with_reducible refine (words_Get.calls t139 a1_0 a1_1 t141 t142 _ A18.out).mono ?_); rintro e w' ⟨rfl, ⟨nd, rfl⟩⟩; refine ⟨_, rfl, ?_⟩) | ((with_reducible refine gate_callee (f := 13) rfl ?_); refine goesL_ (some 77) rfl rfl Try.func13 (by kernel_rfl) rfl #[.int .u64 t139, .int .i64 a1_0, .int .i64 a1_1, .int .u64 t137] rfl (by (try simp only [List.map_toArray, List.map_cons, List.map_nil]); first | done | rfl | (simp only [List.length_drop, List.length_take]; rfl)) ?_; (with_reducible refine (words_Put.calls t139 a1_0 a1_1 t137 t143 t144 _ A19.out).mono ?_); rintro e w' ⟨rfl, ⟨nd, rfl⟩⟩; refine ⟨_, rfl, ?_⟩) | ((with_reducible refine gate_callee (f := 11) rfl ?_); refine goesL_ (some 86) rfl rfl Try.func11 (by kernel_rfl) rfl #[.int .u64 a0, .int .i64 a1_2, .int .i64 a1_3] rfl (by (try simp only [List.map_toArray, List.map_cons, List.map_nil]); first | done | rfl | (simp only [List.length_drop, List.length_take]; rfl)) ?_; (with_reducible refine (words_Get.calls a0 a1_2 a1_3 t145 t146 _ A20.out).mono ?_); rintro e w' ⟨rfl, ⟨nd, rfl⟩⟩; refine ⟨_, rfl, ?_⟩) | ((with_reducible refine gate_callee (f := 11) rfl ?_); refine goesL_ (some 95) rfl rfl Try.func11 (by kernel_rfl) rfl #[.int .u64 t139, .int .i64 a1_2, .int .i64 a1_3] rfl (by (try simp only [List.map_toArray, List.map_cons, List.map_nil]); first | done | rfl | (simp only [List.length_drop, List.length_take]; rfl)) ?_; (with_reducible refine (words_Get.calls t139 a1_2 a1_3 t147 t148 _ A21.out).mono ?_); rintro e w' ⟨rfl, ⟨nd, rfl⟩⟩; refine ⟨_, rfl, ?_⟩))
                  go_ret
                  exact ⟨by first | rfl | (simp [errW_none, errW_some] <;> rfl) | (simp [*, errW_none, errW_some] <;> rfl), by repeat (first | (with_reducible first | exact HB.out | apply below_alloc | apply pw_below_drewN | apply below_drew1 | refine below_set ?_ GE135.out) | exact HB.out)⟩
              · rw [if_neg c35] at H
                have c35b0 : (t142 == 0) = false := beq_eq_false_iff_ne.mpr c35
                have c35b1 : (t142 != 0) = true := bne_iff_ne.mpr c35
                obtain rfl := Option.some.inj H
                have hcz47_0 : wc.cell? ⟨gb135, 0, none⟩ = some (.int .i64 a1_0) := (blk_cell BK135.out 0).trans rfl
                have hcz47_1 : wc.cell? ⟨gb135, 1, none⟩ = some (.int .i64 a1_1) := (blk_cell BK135.out 1).trans rfl
                have hcz47_2 : wc.cell? ⟨gb135, 2, none⟩ = some (.int .i64 a1_2) := (blk_cell BK135.out 2).trans rfl
                have hcz47_3 : wc.cell? ⟨gb135, 3, none⟩ = some (.int .i64 a1_3) := (blk_cell BK135.out 3).trans rfl
                have hfz47_0 := blk_frozen BK135.out 0
                have hfz47_1 := blk_frozen BK135.out 1
                have hfz47_2 := blk_frozen BK135.out 2
                have hfz47_3 := blk_frozen BK135.out 3
                go_wp2_with (first | ((with_reducible refine gate_callee (f := 11) rfl ?_); refine goesL_ (some 67) rfl rfl Try.func11 (by kernel_rfl) rfl #[.int .u64 t139, .int .i64 a1_0, .int .i64 a1_1] rfl (by (try simp only [List.map_toArray, List.map_cons, List.map_nil]); first | done | rfl | (simp only [List.length_drop, List.length_take]; rfl)) ?_; (with_reducible refine (words_Get.calls t139 a1_0 a1_1 t141 t142 _ A18.out).mono ?_); rintro e w' ⟨rfl, ⟨nd, rfl⟩⟩; refine ⟨_, rfl, ?_⟩) | ((with_reducible refine gate_callee (f := 13) rfl ?_); refine goesL_ (some 77) rfl rfl Try.func13 (by kernel_rfl) rfl #[.int .u64 t139, .int .i64 a1_0, .int .i64 a1_1, .int .u64 t137] rfl (by (try simp only [List.map_toArray, List.map_cons, List.map_nil]); first | done | rfl | (simp only [List.length_drop, List.length_take]; rfl)) ?_; (with_reducible refine (words_Put.calls t139 a1_0 a1_1 t137 t143 t144 _ A19.out).mono ?_); rintro e w' ⟨rfl, ⟨nd, rfl⟩⟩; refine ⟨_, rfl, ?_⟩) | ((with_reducible refine gate_callee (f := 11) rfl ?_); refine goesL_ (some 86) rfl rfl Try.func11 (by kernel_rfl) rfl #[.int .u64 a0, .int .i64 a1_2, .int .i64 a1_3] rfl (by (try simp only [List.map_toArray, List.map_cons, List.map_nil]); first | done | rfl | (simp only [List.length_drop, List.length_take]; rfl)) ?_; (with_reducible refine (words_Get.calls a0 a1_2 a1_3 t145 t146 _ A20.out).mono ?_); rintro e w' ⟨rfl, ⟨nd, rfl⟩⟩; refine ⟨_, rfl, ?_⟩) | ((with_reducible refine gate_callee (f := 11) rfl ?_); refine goesL_ (some 95) rfl rfl Try.func11 (by kernel_rfl) rfl #[.int .u64 t139, .int .i64 a1_2, .int .i64 a1_3] rfl (by (try simp only [List.map_toArray, List.map_cons, List.map_nil]); first | done | rfl | (simp only [List.length_drop, List.length_take]; rfl)) ?_; (with_reducible refine (words_Get.calls t139 a1_2 a1_3 t147 t148 _ A21.out).mono ?_); rintro e w' ⟨rfl, ⟨nd, rfl⟩⟩; refine ⟨_, rfl, ?_⟩))
                go_ret
                exact ⟨by first | rfl | (simp [errW_none, errW_some] <;> rfl) | (simp [*, errW_none, errW_some] <;> rfl), by repeat (first | (with_reducible first | exact HB.out | apply below_alloc | apply pw_below_drewN | apply below_drew1 | refine below_set ?_ GE135.out) | exact HB.out)⟩
          · rw [if_neg c22] at H
            have c22b0 : (t146 == 0) = false := beq_eq_false_iff_ne.mpr c22
            have c22b1 : (t146 != 0) = true := bne_iff_ne.mpr c22
            by_cases c48 : t142 = 0
            · rw [if_pos c48] at H
              have c48b0 : (t142 == 0) = true := beq_iff_eq.mpr c48
              have c48b1 : (t142 != 0) = false := bne_eq_false_iff_eq.mpr c48
              clear c48
              by_cases c49 : t141 = a2
              · rw [if_pos c49] at H
                have c49b0 : (t141 == a2) = true := beq_iff_eq.mpr c49
                have c49b1 : (t141 != a2) = false := bne_eq_false_iff_eq.mpr c49
                clear c49
                by_cases c50 : t144 = 0
                · rw [if_pos c50] at H
                  have c50b0 : (t144 == 0) = true := beq_iff_eq.mpr c50
                  have c50b1 : (t144 != 0) = false := bne_eq_false_iff_eq.mpr c50
                  clear c50
                  by_cases c51 : t143 = a0
                  · rw [if_pos c51] at H
                    have c51b0 : (t143 == a0) = true := beq_iff_eq.mpr c51
                    have c51b1 : (t143 != a0) = false := bne_eq_false_iff_eq.mpr c51
                    clear c51
                    by_cases c52 : t146 = t148
                    · rw [if_pos c52] at H
                      have c52b0 : (t146 == t148) = true := beq_iff_eq.mpr c52
                      have c52b1 : (t146 != t148) = false := bne_eq_false_iff_eq.mpr c52
                      clear c52
                      obtain rfl := Option.some.inj H
                      have hcz53_0 : wc.cell? ⟨gb135, 0, none⟩ = some (.int .i64 a1_0) := (blk_cell BK135.out 0).trans rfl
                      have hcz53_1 : wc.cell? ⟨gb135, 1, none⟩ = some (.int .i64 a1_1) := (blk_cell BK135.out 1).trans rfl
                      have hcz53_2 : wc.cell? ⟨gb135, 2, none⟩ = some (.int .i64 a1_2) := (blk_cell BK135.out 2).trans rfl
                      have hcz53_3 : wc.cell? ⟨gb135, 3, none⟩ = some (.int .i64 a1_3) := (blk_cell BK135.out 3).trans rfl
                      have hfz53_0 := blk_frozen BK135.out 0
                      have hfz53_1 := blk_frozen BK135.out 1
                      have hfz53_2 := blk_frozen BK135.out 2
                      have hfz53_3 := blk_frozen BK135.out 3
                      go_wp2_with (first | ((with_reducible refine gate_callee (f := 11) rfl ?_); refine goesL_ (some 67) rfl rfl Try.func11 (by kernel_rfl) rfl #[.int .u64 t139, .int .i64 a1_0, .int .i64 a1_1] rfl (by (try simp only [List.map_toArray, List.map_cons, List.map_nil]); first | done | rfl | (simp only [List.length_drop, List.length_take]; rfl)) ?_; (with_reducible refine (words_Get.calls t139 a1_0 a1_1 t141 t142 _ A18.out).mono ?_); rintro e w' ⟨rfl, ⟨nd, rfl⟩⟩; refine ⟨_, rfl, ?_⟩) | ((with_reducible refine gate_callee (f := 13) rfl ?_); refine goesL_ (some 77) rfl rfl Try.func13 (by kernel_rfl) rfl #[.int .u64 t139, .int .i64 a1_0, .int .i64 a1_1, .int .u64 t137] rfl (by (try simp only [List.map_toArray, List.map_cons, List.map_nil]); first | done | rfl | (simp only [List.length_drop, List.length_take]; rfl)) ?_; (with_reducible refine (words_Put.calls t139 a1_0 a1_1 t137 t143 t144 _ A19.out).mono ?_); rintro e w' ⟨rfl, ⟨nd, rfl⟩⟩; refine ⟨_, rfl, ?_⟩) | ((with_reducible refine gate_callee (f := 11) rfl ?_); refine goesL_ (some 86) rfl rfl Try.func11 (by kernel_rfl) rfl #[.int .u64 a0, .int .i64 a1_2, .int .i64 a1_3] rfl (by (try simp only [List.map_toArray, List.map_cons, List.map_nil]); first | done | rfl | (simp only [List.length_drop, List.length_take]; rfl)) ?_; (with_reducible refine (words_Get.calls a0 a1_2 a1_3 t145 t146 _ A20.out).mono ?_); rintro e w' ⟨rfl, ⟨nd, rfl⟩⟩; refine ⟨_, rfl, ?_⟩) | ((with_reducible refine gate_callee (f := 11) rfl ?_); refine goesL_ (some 95) rfl rfl Try.func11 (by kernel_rfl) rfl #[.int .u64 t139, .int .i64 a1_2, .int .i64 a1_3] rfl (by (try simp only [List.map_toArray, List.map_cons, List.map_nil]); first | done | rfl | (simp only [List.length_drop, List.length_take]; rfl)) ?_; (with_reducible refine (words_Get.calls t139 a1_2 a1_3 t147 t148 _ A21.out).mono ?_); rintro e w' ⟨rfl, ⟨nd, rfl⟩⟩; refine ⟨_, rfl, ?_⟩))
                      go_ret
                      exact ⟨by first | rfl | (simp [errW_none, errW_some] <;> rfl) | (simp [*, errW_none, errW_some] <;> rfl), by repeat (first | (with_reducible first | exact HB.out | apply below_alloc | apply pw_below_drewN | apply below_drew1 | refine below_set ?_ GE135.out) | exact HB.out)⟩
                    · rw [if_neg c52] at H
                      have c52b0 : (t146 == t148) = false := beq_eq_false_iff_ne.mpr c52
                      have c52b1 : (t146 != t148) = true := bne_iff_ne.mpr c52
                      obtain rfl := Option.some.inj H
                      have hcz54_0 : wc.cell? ⟨gb135, 0, none⟩ = some (.int .i64 a1_0) := (blk_cell BK135.out 0).trans rfl
                      have hcz54_1 : wc.cell? ⟨gb135, 1, none⟩ = some (.int .i64 a1_1) := (blk_cell BK135.out 1).trans rfl
                      have hcz54_2 : wc.cell? ⟨gb135, 2, none⟩ = some (.int .i64 a1_2) := (blk_cell BK135.out 2).trans rfl
                      have hcz54_3 : wc.cell? ⟨gb135, 3, none⟩ = some (.int .i64 a1_3) := (blk_cell BK135.out 3).trans rfl
                      have hfz54_0 := blk_frozen BK135.out 0
                      have hfz54_1 := blk_frozen BK135.out 1
                      have hfz54_2 := blk_frozen BK135.out 2
                      have hfz54_3 := blk_frozen BK135.out 3
                      go_wp2_with (first | ((with_reducible refine gate_callee (f := 11) rfl ?_); refine goesL_ (some 67) rfl rfl Try.func11 (by kernel_rfl) rfl #[.int .u64 t139, .int .i64 a1_0, .int .i64 a1_1] rfl (by (try simp only [List.map_toArray, List.map_cons, List.map_nil]); first | done | rfl | (simp only [List.length_drop, List.length_take]; rfl)) ?_; (with_reducible refine (words_Get.calls t139 a1_0 a1_1 t141 t142 _ A18.out).mono ?_); rintro e w' ⟨rfl, ⟨nd, rfl⟩⟩; refine ⟨_, rfl, ?_⟩) | ((with_reducible refine gate_callee (f := 13) rfl ?_); refine goesL_ (some 77) rfl rfl Try.func13 (by kernel_rfl) rfl #[.int .u64 t139, .int .i64 a1_0, .int .i64 a1_1, .int .u64 t137] rfl (by (try simp only [List.map_toArray, List.map_cons, List.map_nil]); first | done | rfl | (simp only [List.length_drop, List.length_take]; rfl)) ?_; (with_reducible refine (words_Put.calls t139 a1_0 a1_1 t137 t143 t144 _ A19.out).mono ?_); rintro e w' ⟨rfl, ⟨nd, rfl⟩⟩; refine ⟨_, rfl, ?_⟩) | ((with_reducible refine gate_callee (f := 11) rfl ?_); refine goesL_ (some 86) rfl rfl Try.func11 (by kernel_rfl) rfl #[.int .u64 a0, .int .i64 a1_2, .int .i64 a1_3] rfl (by (try simp only [List.map_toArray, List.map_cons, List.map_nil]); first | done | rfl | (simp only [List.length_drop, List.length_take]; rfl)) ?_; (with_reducible refine (words_Get.calls a0 a1_2 a1_3 t145 t146 _ A20.out).mono ?_); rintro e w' ⟨rfl, ⟨nd, rfl⟩⟩; refine ⟨_, rfl, ?_⟩) | ((with_reducible refine gate_callee (f := 11) rfl ?_); refine goesL_ (some 95) rfl rfl Try.func11 (by kernel_rfl) rfl #[.int .u64 t139, .int .i64 a1_2, .int .i64 a1_3] rfl (by (try simp only [List.map_toArray, List.map_cons, List.map_nil]); first | done | rfl | (simp only [List.length_drop, List.length_take]; rfl)) ?_; (with_reducible refine (words_Get.calls t139 a1_2 a1_3 t147 t148 _ A21.out).mono ?_); rintro e w' ⟨rfl, ⟨nd, rfl⟩⟩; refine ⟨_, rfl, ?_⟩))
                      go_ret
                      exact ⟨by first | rfl | (simp [errW_none, errW_some] <;> rfl) | (simp [*, errW_none, errW_some] <;> rfl), by repeat (first | (with_reducible first | exact HB.out | apply below_alloc | apply pw_below_drewN | apply below_drew1 | refine below_set ?_ GE135.out) | exact HB.out)⟩
                  · rw [if_neg c51] at H
                    have c51b0 : (t143 == a0) = false := beq_eq_false_iff_ne.mpr c51
                    have c51b1 : (t143 != a0) = true := bne_iff_ne.mpr c51
                    obtain rfl := Option.some.inj H
                    have hcz55_0 : wc.cell? ⟨gb135, 0, none⟩ = some (.int .i64 a1_0) := (blk_cell BK135.out 0).trans rfl
                    have hcz55_1 : wc.cell? ⟨gb135, 1, none⟩ = some (.int .i64 a1_1) := (blk_cell BK135.out 1).trans rfl
                    have hcz55_2 : wc.cell? ⟨gb135, 2, none⟩ = some (.int .i64 a1_2) := (blk_cell BK135.out 2).trans rfl
                    have hcz55_3 : wc.cell? ⟨gb135, 3, none⟩ = some (.int .i64 a1_3) := (blk_cell BK135.out 3).trans rfl
                    have hfz55_0 := blk_frozen BK135.out 0
                    have hfz55_1 := blk_frozen BK135.out 1
                    have hfz55_2 := blk_frozen BK135.out 2
                    have hfz55_3 := blk_frozen BK135.out 3
                    go_wp2_with (first | ((with_reducible refine gate_callee (f := 11) rfl ?_); refine goesL_ (some 67) rfl rfl Try.func11 (by kernel_rfl) rfl #[.int .u64 t139, .int .i64 a1_0, .int .i64 a1_1] rfl (by (try simp only [List.map_toArray, List.map_cons, List.map_nil]); first | done | rfl | (simp only [List.length_drop, List.length_take]; rfl)) ?_; (with_reducible refine (words_Get.calls t139 a1_0 a1_1 t141 t142 _ A18.out).mono ?_); rintro e w' ⟨rfl, ⟨nd, rfl⟩⟩; refine ⟨_, rfl, ?_⟩) | ((with_reducible refine gate_callee (f := 13) rfl ?_); refine goesL_ (some 77) rfl rfl Try.func13 (by kernel_rfl) rfl #[.int .u64 t139, .int .i64 a1_0, .int .i64 a1_1, .int .u64 t137] rfl (by (try simp only [List.map_toArray, List.map_cons, List.map_nil]); first | done | rfl | (simp only [List.length_drop, List.length_take]; rfl)) ?_; (with_reducible refine (words_Put.calls t139 a1_0 a1_1 t137 t143 t144 _ A19.out).mono ?_); rintro e w' ⟨rfl, ⟨nd, rfl⟩⟩; refine ⟨_, rfl, ?_⟩) | ((with_reducible refine gate_callee (f := 11) rfl ?_); refine goesL_ (some 86) rfl rfl Try.func11 (by kernel_rfl) rfl #[.int .u64 a0, .int .i64 a1_2, .int .i64 a1_3] rfl (by (try simp only [List.map_toArray, List.map_cons, List.map_nil]); first | done | rfl | (simp only [List.length_drop, List.length_take]; rfl)) ?_; (with_reducible refine (words_Get.calls a0 a1_2 a1_3 t145 t146 _ A20.out).mono ?_); rintro e w' ⟨rfl, ⟨nd, rfl⟩⟩; refine ⟨_, rfl, ?_⟩) | ((with_reducible refine gate_callee (f := 11) rfl ?_); refine goesL_ (some 95) rfl rfl Try.func11 (by kernel_rfl) rfl #[.int .u64 t139, .int .i64 a1_2, .int .i64 a1_3] rfl (by (try simp only [List.map_toArray, List.map_cons, List.map_nil]); first | done | rfl | (simp only [List.length_drop, List.length_take]; rfl)) ?_; (with_reducible refine (words_Get.calls t139 a1_2 a1_3 t147 t148 _ A21.out).mono ?_); rintro e w' ⟨rfl, ⟨nd, rfl⟩⟩; refine ⟨_, rfl, ?_⟩))
                    go_ret
                    exact ⟨by first | rfl | (simp [errW_none, errW_some] <;> rfl) | (simp [*, errW_none, errW_some] <;> rfl), by repeat (first | (with_reducible first | exact HB.out | apply below_alloc | apply pw_below_drewN | apply below_drew1 | refine below_set ?_ GE135.out) | exact HB.out)⟩
                · rw [if_neg c50] at H
                  have c50b0 : (t144 == 0) = false := beq_eq_false_iff_ne.mpr c50
                  have c50b1 : (t144 != 0) = true := bne_iff_ne.mpr c50
                  obtain rfl := Option.some.inj H
                  have hcz56_0 : wc.cell? ⟨gb135, 0, none⟩ = some (.int .i64 a1_0) := (blk_cell BK135.out 0).trans rfl
                  have hcz56_1 : wc.cell? ⟨gb135, 1, none⟩ = some (.int .i64 a1_1) := (blk_cell BK135.out 1).trans rfl
                  have hcz56_2 : wc.cell? ⟨gb135, 2, none⟩ = some (.int .i64 a1_2) := (blk_cell BK135.out 2).trans rfl
                  have hcz56_3 : wc.cell? ⟨gb135, 3, none⟩ = some (.int .i64 a1_3) := (blk_cell BK135.out 3).trans rfl
                  have hfz56_0 := blk_frozen BK135.out 0
                  have hfz56_1 := blk_frozen BK135.out 1
                  have hfz56_2 := blk_frozen BK135.out 2
                  have hfz56_3 := blk_frozen BK135.out 3
                  go_wp2_with (first | ((with_reducible refine gate_callee (f := 11) rfl ?_); refine goesL_ (some 67) rfl rfl Try.func11 (by kernel_rfl) rfl #[.int .u64 t139, .int .i64 a1_0, .int .i64 a1_1] rfl (by (try simp only [List.map_toArray, List.map_cons, List.map_nil]); first | done | rfl | (simp only [List.length_drop, List.length_take]; rfl)) ?_; (with_reducible refine (words_Get.calls t139 a1_0 a1_1 t141 t142 _ A18.out).mono ?_); rintro e w' ⟨rfl, ⟨nd, rfl⟩⟩; refine ⟨_, rfl, ?_⟩) | ((with_reducible refine gate_callee (f := 13) rfl ?_); refine goesL_ (some 77) rfl rfl Try.func13 (by kernel_rfl) rfl #[.int .u64 t139, .int .i64 a1_0, .int .i64 a1_1, .int .u64 t137] rfl (by (try simp only [List.map_toArray, List.map_cons, List.map_nil]); first | done | rfl | (simp only [List.length_drop, List.length_take]; rfl)) ?_; (with_reducible refine (words_Put.calls t139 a1_0 a1_1 t137 t143 t144 _ A19.out).mono ?_); rintro e w' ⟨rfl, ⟨nd, rfl⟩⟩; refine ⟨_, rfl, ?_⟩) | ((with_reducible refine gate_callee (f := 11) rfl ?_); refine goesL_ (some 86) rfl rfl Try.func11 (by kernel_rfl) rfl #[.int .u64 a0, .int .i64 a1_2, .int .i64 a1_3] rfl (by (try simp only [List.map_toArray, List.map_cons, List.map_nil]); first | done | rfl | (simp only [List.length_drop, List.length_take]; rfl)) ?_; (with_reducible refine (words_Get.calls a0 a1_2 a1_3 t145 t146 _ A20.out).mono ?_); rintro e w' ⟨rfl, ⟨nd, rfl⟩⟩; refine ⟨_, rfl, ?_⟩) | ((with_reducible refine gate_callee (f := 11) rfl ?_); refine goesL_ (some 95) rfl rfl Try.func11 (by kernel_rfl) rfl #[.int .u64 t139, .int .i64 a1_2, .int .i64 a1_3] rfl (by (try simp only [List.map_toArray, List.map_cons, List.map_nil]); first | done | rfl | (simp only [List.length_drop, List.length_take]; rfl)) ?_; (with_reducible refine (words_Get.calls t139 a1_2 a1_3 t147 t148 _ A21.out).mono ?_); rintro e w' ⟨rfl, ⟨nd, rfl⟩⟩; refine ⟨_, rfl, ?_⟩))
                  go_ret
                  exact ⟨by first | rfl | (simp [errW_none, errW_some] <;> rfl) | (simp [*, errW_none, errW_some] <;> rfl), by repeat (first | (with_reducible first | exact HB.out | apply below_alloc | apply pw_below_drewN | apply below_drew1 | refine below_set ?_ GE135.out) | exact HB.out)⟩
              · rw [if_neg c49] at H
                have c49b0 : (t141 == a2) = false := beq_eq_false_iff_ne.mpr c49
                have c49b1 : (t141 != a2) = true := bne_iff_ne.mpr c49
                obtain rfl := Option.some.inj H
                have hcz57_0 : wc.cell? ⟨gb135, 0, none⟩ = some (.int .i64 a1_0) := (blk_cell BK135.out 0).trans rfl
                have hcz57_1 : wc.cell? ⟨gb135, 1, none⟩ = some (.int .i64 a1_1) := (blk_cell BK135.out 1).trans rfl
                have hcz57_2 : wc.cell? ⟨gb135, 2, none⟩ = some (.int .i64 a1_2) := (blk_cell BK135.out 2).trans rfl
                have hcz57_3 : wc.cell? ⟨gb135, 3, none⟩ = some (.int .i64 a1_3) := (blk_cell BK135.out 3).trans rfl
                have hfz57_0 := blk_frozen BK135.out 0
                have hfz57_1 := blk_frozen BK135.out 1
                have hfz57_2 := blk_frozen BK135.out 2
                have hfz57_3 := blk_frozen BK135.out 3
                go_wp2_with (first | ((with_reducible refine gate_callee (f := 11) rfl ?_); refine goesL_ (some 67) rfl rfl Try.func11 (by kernel_rfl) rfl #[.int .u64 t139, .int .i64 a1_0, .int .i64 a1_1] rfl (by (try simp only [List.map_toArray, List.map_cons, List.map_nil]); first | done | rfl | (simp only [List.length_drop, List.length_take]; rfl)) ?_; (with_reducible refine (words_Get.calls t139 a1_0 a1_1 t141 t142 _ A18.out).mono ?_); rintro e w' ⟨rfl, ⟨nd, rfl⟩⟩; refine ⟨_, rfl, ?_⟩) | ((with_reducible refine gate_callee (f := 13) rfl ?_); refine goesL_ (some 77) rfl rfl Try.func13 (by kernel_rfl) rfl #[.int .u64 t139, .int .i64 a1_0, .int .i64 a1_1, .int .u64 t137] rfl (by (try simp only [List.map_toArray, List.map_cons, List.map_nil]); first | done | rfl | (simp only [List.length_drop, List.length_take]; rfl)) ?_; (with_reducible refine (words_Put.calls t139 a1_0 a1_1 t137 t143 t144 _ A19.out).mono ?_); rintro e w' ⟨rfl, ⟨nd, rfl⟩⟩; refine ⟨_, rfl, ?_⟩) | ((with_reducible refine gate_callee (f := 11) rfl ?_); refine goesL_ (some 86) rfl rfl Try.func11 (by kernel_rfl) rfl #[.int .u64 a0, .int .i64 a1_2, .int .i64 a1_3] rfl (by (try simp only [List.map_toArray, List.map_cons, List.map_nil]); first | done | rfl | (simp only [List.length_drop, List.length_take]; rfl)) ?_; (with_reducible refine (words_Get.calls a0 a1_2 a1_3 t145 t146 _ A20.out).mono ?_); rintro e w' ⟨rfl, ⟨nd, rfl⟩⟩; refine ⟨_, rfl, ?_⟩) | ((with_reducible refine gate_callee (f := 11) rfl ?_); refine goesL_ (some 95) rfl rfl Try.func11 (by kernel_rfl) rfl #[.int .u64 t139, .int .i64 a1_2, .int .i64 a1_3] rfl (by (try simp only [List.map_toArray, List.map_cons, List.map_nil]); first | done | rfl | (simp only [List.length_drop, List.length_take]; rfl)) ?_; (with_reducible refine (words_Get.calls t139 a1_2 a1_3 t147 t148 _ A21.out).mono ?_); rintro e w' ⟨rfl, ⟨nd, rfl⟩⟩; refine ⟨_, rfl, ?_⟩))
                go_ret
                exact ⟨by first | rfl | (simp [errW_none, errW_some] <;> rfl) | (simp [*, errW_none, errW_some] <;> rfl), by repeat (first | (with_reducible first | exact HB.out | apply below_alloc | apply pw_below_drewN | apply below_drew1 | refine below_set ?_ GE135.out) | exact HB.out)⟩
            · rw [if_neg c48] at H
              have c48b0 : (t142 == 0) = false := beq_eq_false_iff_ne.mpr c48
              have c48b1 : (t142 != 0) = true := bne_iff_ne.mpr c48
              obtain rfl := Option.some.inj H
              have hcz58_0 : wc.cell? ⟨gb135, 0, none⟩ = some (.int .i64 a1_0) := (blk_cell BK135.out 0).trans rfl
              have hcz58_1 : wc.cell? ⟨gb135, 1, none⟩ = some (.int .i64 a1_1) := (blk_cell BK135.out 1).trans rfl
              have hcz58_2 : wc.cell? ⟨gb135, 2, none⟩ = some (.int .i64 a1_2) := (blk_cell BK135.out 2).trans rfl
              have hcz58_3 : wc.cell? ⟨gb135, 3, none⟩ = some (.int .i64 a1_3) := (blk_cell BK135.out 3).trans rfl
              have hfz58_0 := blk_frozen BK135.out 0
              have hfz58_1 := blk_frozen BK135.out 1
              have hfz58_2 := blk_frozen BK135.out 2
              have hfz58_3 := blk_frozen BK135.out 3
              go_wp2_with (first | ((with_reducible refine gate_callee (f := 11) rfl ?_); refine goesL_ (some 67) rfl rfl Try.func11 (by kernel_rfl) rfl #[.int .u64 t139, .int .i64 a1_0, .int .i64 a1_1] rfl (by (try simp only [List.map_toArray, List.map_cons, List.map_nil]); first | done | rfl | (simp only [List.length_drop, List.length_take]; rfl)) ?_; (with_reducible refine (words_Get.calls t139 a1_0 a1_1 t141 t142 _ A18.out).mono ?_); rintro e w' ⟨rfl, ⟨nd, rfl⟩⟩; refine ⟨_, rfl, ?_⟩) | ((with_reducible refine gate_callee (f := 13) rfl ?_); refine goesL_ (some 77) rfl rfl Try.func13 (by kernel_rfl) rfl #[.int .u64 t139, .int .i64 a1_0, .int .i64 a1_1, .int .u64 t137] rfl (by (try simp only [List.map_toArray, List.map_cons, List.map_nil]); first | done | rfl | (simp only [List.length_drop, List.length_take]; rfl)) ?_; (with_reducible refine (words_Put.calls t139 a1_0 a1_1 t137 t143 t144 _ A19.out).mono ?_); rintro e w' ⟨rfl, ⟨nd, rfl⟩⟩; refine ⟨_, rfl, ?_⟩) | ((with_reducible refine gate_callee (f := 11) rfl ?_); refine goesL_ (some 86) rfl rfl Try.func11 (by kernel_rfl) rfl #[.int .u64 a0, .int .i64 a1_2, .int .i64 a1_3] rfl (by (try simp only [List.map_toArray, List.map_cons, List.map_nil]); first | done | rfl | (simp only [List.length_drop, List.length_take]; rfl)) ?_; (with_reducible refine (words_Get.calls a0 a1_2 a1_3 t145 t146 _ A20.out).mono ?_); rintro e w' ⟨rfl, ⟨nd, rfl⟩⟩; refine ⟨_, rfl, ?_⟩) | ((with_reducible refine gate_callee (f := 11) rfl ?_); refine goesL_ (some 95) rfl rfl Try.func11 (by kernel_rfl) rfl #[.int .u64 t139, .int .i64 a1_2, .int .i64 a1_3] rfl (by (try simp only [List.map_toArray, List.map_cons, List.map_nil]); first | done | rfl | (simp only [List.length_drop, List.length_take]; rfl)) ?_; (with_reducible refine (words_Get.calls t139 a1_2 a1_3 t147 t148 _ A21.out).mono ?_); rintro e w' ⟨rfl, ⟨nd, rfl⟩⟩; refine ⟨_, rfl, ?_⟩))
              go_ret
              exact ⟨by first | rfl | (simp [errW_none, errW_some] <;> rfl) | (simp [*, errW_none, errW_some] <;> rfl), by repeat (first | (with_reducible first | exact HB.out | apply below_alloc | apply pw_below_drewN | apply below_drew1 | refine below_set ?_ GE135.out) | exact HB.out)⟩
  · replace c5 := Bool.eq_false_iff.mpr c5
    subst c5
    have H1 : (some false) = some r := by rw [if_neg (show ¬ (false = true) by decide)] at H; exact H
    clear H
    have H := H1
    clear H1
    obtain rfl := Option.some.inj H
    go_enter Try.func5, Try.ntmps5
    go_wp2_with (first | ((with_reducible refine gate_dst (N := 4) rfl ?_); refine box_event ?hg (N := 4) ?hd (cs := #[.int .i64 a1_0, .int .i64 a1_1, .int .i64 a1_2, .int .i64 a1_3]) (t := 32) ?hr ?_; (case hd => rfl); (case hg => rfl); (case hr => first | (go_simp; done) | (go_simp; rfl)); intro gb135 hg w59 hbox hb; have n0_ := Aside0.mk (below_step (by repeat (first | (with_reducible first | exact HB.out | apply below_alloc | apply pw_below_drewN | apply below_drew1) | exact HB.out)) hb); have n1_ := Aside0.mk (hbox); have n2_ := Aside0.mk ((by rw [hg]; exact (below_size (by repeat (first | (with_reducible first | exact HB.out | apply below_alloc | apply pw_below_drewN | apply below_drew1) | exact HB.out))) : w.heap.size ≤ gb135)); have n3_ := Aside0.mk ((by rw [hg]; exact (below_size (by repeat (first | (with_reducible first | exact HB.out | apply below_alloc | apply pw_below_drewN | apply below_drew1) | exact HB.out))) : w.heap.size ≤ gb135)); clear HB; have HB := n0_; have BK135 := n1_; have GW135 := n2_; have GE135 := n3_; clear n0_ n1_ n2_ n3_; clear hb hbox hg) | ((with_reducible refine gate_callee (f := 9) rfl ?_); refine goesL_ (some 20) rfl rfl Try.func9 (by kernel_rfl) rfl #[] rfl (by (try simp only [List.map_toArray, List.map_cons, List.map_nil]); first | done | rfl | (simp only [List.length_drop, List.length_take]; rfl)) ?_; (with_reducible refine (escritoirelaw01_lives.calls  false _ A4.out).mono ?_); rintro e w60 ⟨rfl, hb⟩; refine ⟨_, rfl, ?_⟩; have n0_ := Aside0.mk (blk_below (g := gb135) (o := .cells #[.int .i64 a1_0, .int .i64 a1_1, .int .i64 a1_2, .int .i64 a1_3] 32 (0, 0)) (by (with_reducible repeat (first | refine blk_drewN ?_ _ | refine blk_drew ?_ | refine blk_alloc ?_ _)); exact BK135.out) hb); have n1_ := Aside0.mk (below_step (by repeat (first | (with_reducible first | exact HB.out | apply below_alloc | apply pw_below_drewN | apply below_drew1 | refine below_set ?_ GE135.out) | exact HB.out)) hb); clear BK135; clear HB; have BK135 := n0_; have HB := n1_; clear n0_ n1_; (try clear hb); (try clear hb2); (try clear hk); (try clear hi)))
    go_ret
    exact ⟨by first | rfl | (simp [errW_none, errW_some] <;> rfl) | (simp [*, errW_none, errW_some] <;> rfl), by repeat (first | (with_reducible first | exact HB.out | apply below_alloc | apply pw_below_drewN | apply below_drew1 | refine below_set ?_ GE135.out) | exact HB.out)⟩

/-! ### escritoirelaw01_WordsWhole: function 6 -/
def escritoirelaw01_WordsWhole.f (a0 : Int) (a1 : Int) : Option (Bool) := (escritoirelaw01_lives.f).bind fun t149 => (if t149 = true then ((words_Get.f a0 0 (wrap64 (1 + (wrap64 (Int.tmod (IntKind.u64.wrap (a1)) 63))))).bind fun bt150 => ((words_Get.f a0 (wrap64 (1 + (wrap64 (Int.tmod (IntKind.u64.wrap (a1)) 63)))) (wrap64 (64 - (wrap64 (1 + (wrap64 (Int.tmod (IntKind.u64.wrap (a1)) 63))))))).bind fun bt152 => ((words_Put.f 0 0 (wrap64 (1 + (wrap64 (Int.tmod (IntKind.u64.wrap (a1)) 63)))) bt150.1).bind fun bt154 => ((words_Put.f bt154.1 (wrap64 (1 + (wrap64 (Int.tmod (IntKind.u64.wrap (a1)) 63)))) (wrap64 (64 - (wrap64 (1 + (wrap64 (Int.tmod (IntKind.u64.wrap (a1)) 63)))))) bt152.1).bind fun bt156 => ((words_Get.f a0 0 64).bind fun bt158 => (if bt150.2 = 0 then (if bt152.2 = 0 then (if bt154.2 = 0 then (if bt156.2 = 0 then (if bt158.2 = 0 then (if bt156.1 = a0 then (if bt158.1 = a0 then (if 0 ≤ (wrap64 (1 + (wrap64 (Int.tmod (IntKind.u64.wrap (a1)) 63)))) then (if bt150.1 ≤ (IntKind.u64.wrap ((shl .u64 1 (wrap64 (1 + (wrap64 (Int.tmod (IntKind.u64.wrap (a1)) 63))))) - 1)) then (if 0 ≤ (wrap64 (64 - (wrap64 (1 + (wrap64 (Int.tmod (IntKind.u64.wrap (a1)) 63)))))) then (some (decide (bt152.1 ≤ (IntKind.u64.wrap ((shl .u64 1 (wrap64 (64 - (wrap64 (1 + (wrap64 (Int.tmod (IntKind.u64.wrap (a1)) 63))))))) - 1))))) else (none)) else (some false)) else (none)) else (some false)) else (some false)) else (some false)) else (some false)) else (some false)) else (some false)) else (some false))))))) else (some false))
set_option maxHeartbeats 8000000 in
set_option maxRecDepth 100000 in
theorem escritoirelaw01_WordsWhole.calls (a0 : Int) (a1 : Int) (r : Bool) (w : World) (h : escritoirelaw01_WordsWhole.f a0 a1 = some r) :
    Calls Try.prog 6 #[.int .u64 a0, .int .i64 a1] w fun e w' => e = .returned (.bool r) ∧ Below w.heap.size w w' := by
  have HB := Aside0.mk (Below.refl w.heap.size w)
  have H : ((escritoirelaw01_lives.f).bind fun t149 => (if t149 = true then ((words_Get.f a0 0 (wrap64 (1 + (wrap64 (Int.tmod (IntKind.u64.wrap (a1)) 63))))).bind fun bt150 => ((words_Get.f a0 (wrap64 (1 + (wrap64 (Int.tmod (IntKind.u64.wrap (a1)) 63)))) (wrap64 (64 - (wrap64 (1 + (wrap64 (Int.tmod (IntKind.u64.wrap (a1)) 63))))))).bind fun bt152 => ((words_Put.f 0 0 (wrap64 (1 + (wrap64 (Int.tmod (IntKind.u64.wrap (a1)) 63)))) bt150.1).bind fun bt154 => ((words_Put.f bt154.1 (wrap64 (1 + (wrap64 (Int.tmod (IntKind.u64.wrap (a1)) 63)))) (wrap64 (64 - (wrap64 (1 + (wrap64 (Int.tmod (IntKind.u64.wrap (a1)) 63)))))) bt152.1).bind fun bt156 => ((words_Get.f a0 0 64).bind fun bt158 => (if bt150.2 = 0 then (if bt152.2 = 0 then (if bt154.2 = 0 then (if bt156.2 = 0 then (if bt158.2 = 0 then (if bt156.1 = a0 then (if bt158.1 = a0 then (if 0 ≤ (wrap64 (1 + (wrap64 (Int.tmod (IntKind.u64.wrap (a1)) 63)))) then (if bt150.1 ≤ (IntKind.u64.wrap ((shl .u64 1 (wrap64 (1 + (wrap64 (Int.tmod (IntKind.u64.wrap (a1)) 63))))) - 1)) then (if 0 ≤ (wrap64 (64 - (wrap64 (1 + (wrap64 (Int.tmod (IntKind.u64.wrap (a1)) 63)))))) then (some (decide (bt152.1 ≤ (IntKind.u64.wrap ((shl .u64 1 (wrap64 (64 - (wrap64 (1 + (wrap64 (Int.tmod (IntKind.u64.wrap (a1)) 63))))))) - 1))))) else (none)) else (some false)) else (none)) else (some false)) else (some false)) else (some false)) else (some false)) else (some false)) else (some false)) else (some false))))))) else (some false))) = some r := h
  clear h
  replace H := Option.bind_eq_some_iff.mp H
  obtain ⟨t149, A30, H⟩ := H
  replace H : (if t149 = true then ((words_Get.f a0 0 (wrap64 (1 + (wrap64 (Int.tmod (IntKind.u64.wrap (a1)) 63))))).bind fun bt150 => ((words_Get.f a0 (wrap64 (1 + (wrap64 (Int.tmod (IntKind.u64.wrap (a1)) 63)))) (wrap64 (64 - (wrap64 (1 + (wrap64 (Int.tmod (IntKind.u64.wrap (a1)) 63))))))).bind fun bt152 => ((words_Put.f 0 0 (wrap64 (1 + (wrap64 (Int.tmod (IntKind.u64.wrap (a1)) 63)))) bt150.1).bind fun bt154 => ((words_Put.f bt154.1 (wrap64 (1 + (wrap64 (Int.tmod (IntKind.u64.wrap (a1)) 63)))) (wrap64 (64 - (wrap64 (1 + (wrap64 (Int.tmod (IntKind.u64.wrap (a1)) 63)))))) bt152.1).bind fun bt156 => ((words_Get.f a0 0 64).bind fun bt158 => (if bt150.2 = 0 then (if bt152.2 = 0 then (if bt154.2 = 0 then (if bt156.2 = 0 then (if bt158.2 = 0 then (if bt156.1 = a0 then (if bt158.1 = a0 then (if 0 ≤ (wrap64 (1 + (wrap64 (Int.tmod (IntKind.u64.wrap (a1)) 63)))) then (if bt150.1 ≤ (IntKind.u64.wrap ((shl .u64 1 (wrap64 (1 + (wrap64 (Int.tmod (IntKind.u64.wrap (a1)) 63))))) - 1)) then (if 0 ≤ (wrap64 (64 - (wrap64 (1 + (wrap64 (Int.tmod (IntKind.u64.wrap (a1)) 63)))))) then (some (decide (bt152.1 ≤ (IntKind.u64.wrap ((shl .u64 1 (wrap64 (64 - (wrap64 (1 + (wrap64 (Int.tmod (IntKind.u64.wrap (a1)) 63))))))) - 1))))) else (none)) else (some false)) else (none)) else (some false)) else (some false)) else (some false)) else (some false)) else (some false)) else (some false)) else (some false))))))) else (some false)) = some r := H
  have A3 := Aside0.mk A30
  clear A30
  by_cases c4 : t149 = true
  · subst c4
    have H1 : ((words_Get.f a0 0 (wrap64 (1 + (wrap64 (Int.tmod (IntKind.u64.wrap (a1)) 63))))).bind fun bt150 => ((words_Get.f a0 (wrap64 (1 + (wrap64 (Int.tmod (IntKind.u64.wrap (a1)) 63)))) (wrap64 (64 - (wrap64 (1 + (wrap64 (Int.tmod (IntKind.u64.wrap (a1)) 63))))))).bind fun bt152 => ((words_Put.f 0 0 (wrap64 (1 + (wrap64 (Int.tmod (IntKind.u64.wrap (a1)) 63)))) bt150.1).bind fun bt154 => ((words_Put.f bt154.1 (wrap64 (1 + (wrap64 (Int.tmod (IntKind.u64.wrap (a1)) 63)))) (wrap64 (64 - (wrap64 (1 + (wrap64 (Int.tmod (IntKind.u64.wrap (a1)) 63)))))) bt152.1).bind fun bt156 => ((words_Get.f a0 0 64).bind fun bt158 => (if bt150.2 = 0 then (if bt152.2 = 0 then (if bt154.2 = 0 then (if bt156.2 = 0 then (if bt158.2 = 0 then (if bt156.1 = a0 then (if bt158.1 = a0 then (if 0 ≤ (wrap64 (1 + (wrap64 (Int.tmod (IntKind.u64.wrap (a1)) 63)))) then (if bt150.1 ≤ (IntKind.u64.wrap ((shl .u64 1 (wrap64 (1 + (wrap64 (Int.tmod (IntKind.u64.wrap (a1)) 63))))) - 1)) then (if 0 ≤ (wrap64 (64 - (wrap64 (1 + (wrap64 (Int.tmod (IntKind.u64.wrap (a1)) 63)))))) then (some (decide (bt152.1 ≤ (IntKind.u64.wrap ((shl .u64 1 (wrap64 (64 - (wrap64 (1 + (wrap64 (Int.tmod (IntKind.u64.wrap (a1)) 63))))))) - 1))))) else (none)) else (some false)) else (none)) else (some false)) else (some false)) else (some false)) else (some false)) else (some false)) else (some false)) else (some false))))))) = some r := by rw [if_pos rfl] at H; exact H
    clear H
    have H := H1
    clear H1
    replace H := Option.bind_eq_some_iff.mp H
    obtain ⟨⟨t150, t151⟩, A50, H⟩ := H
    replace H : ((words_Get.f a0 (wrap64 (1 + (wrap64 (Int.tmod (IntKind.u64.wrap (a1)) 63)))) (wrap64 (64 - (wrap64 (1 + (wrap64 (Int.tmod (IntKind.u64.wrap (a1)) 63))))))).bind fun bt152 => ((words_Put.f 0 0 (wrap64 (1 + (wrap64 (Int.tmod (IntKind.u64.wrap (a1)) 63)))) t150).bind fun bt154 => ((words_Put.f bt154.1 (wrap64 (1 + (wrap64 (Int.tmod (IntKind.u64.wrap (a1)) 63)))) (wrap64 (64 - (wrap64 (1 + (wrap64 (Int.tmod (IntKind.u64.wrap (a1)) 63)))))) bt152.1).bind fun bt156 => ((words_Get.f a0 0 64).bind fun bt158 => (if t151 = 0 then (if bt152.2 = 0 then (if bt154.2 = 0 then (if bt156.2 = 0 then (if bt158.2 = 0 then (if bt156.1 = a0 then (if bt158.1 = a0 then (if 0 ≤ (wrap64 (1 + (wrap64 (Int.tmod (IntKind.u64.wrap (a1)) 63)))) then (if t150 ≤ (IntKind.u64.wrap ((shl .u64 1 (wrap64 (1 + (wrap64 (Int.tmod (IntKind.u64.wrap (a1)) 63))))) - 1)) then (if 0 ≤ (wrap64 (64 - (wrap64 (1 + (wrap64 (Int.tmod (IntKind.u64.wrap (a1)) 63)))))) then (some (decide (bt152.1 ≤ (IntKind.u64.wrap ((shl .u64 1 (wrap64 (64 - (wrap64 (1 + (wrap64 (Int.tmod (IntKind.u64.wrap (a1)) 63))))))) - 1))))) else (none)) else (some false)) else (none)) else (some false)) else (some false)) else (some false)) else (some false)) else (some false)) else (some false)) else (some false)))))) = some r := H
    have A5 := Aside0.mk A50
    clear A50
    replace H := Option.bind_eq_some_iff.mp H
    obtain ⟨⟨t152, t153⟩, A60, H⟩ := H
    replace H : ((words_Put.f 0 0 (wrap64 (1 + (wrap64 (Int.tmod (IntKind.u64.wrap (a1)) 63)))) t150).bind fun bt154 => ((words_Put.f bt154.1 (wrap64 (1 + (wrap64 (Int.tmod (IntKind.u64.wrap (a1)) 63)))) (wrap64 (64 - (wrap64 (1 + (wrap64 (Int.tmod (IntKind.u64.wrap (a1)) 63)))))) t152).bind fun bt156 => ((words_Get.f a0 0 64).bind fun bt158 => (if t151 = 0 then (if t153 = 0 then (if bt154.2 = 0 then (if bt156.2 = 0 then (if bt158.2 = 0 then (if bt156.1 = a0 then (if bt158.1 = a0 then (if 0 ≤ (wrap64 (1 + (wrap64 (Int.tmod (IntKind.u64.wrap (a1)) 63)))) then (if t150 ≤ (IntKind.u64.wrap ((shl .u64 1 (wrap64 (1 + (wrap64 (Int.tmod (IntKind.u64.wrap (a1)) 63))))) - 1)) then (if 0 ≤ (wrap64 (64 - (wrap64 (1 + (wrap64 (Int.tmod (IntKind.u64.wrap (a1)) 63)))))) then (some (decide (t152 ≤ (IntKind.u64.wrap ((shl .u64 1 (wrap64 (64 - (wrap64 (1 + (wrap64 (Int.tmod (IntKind.u64.wrap (a1)) 63))))))) - 1))))) else (none)) else (some false)) else (none)) else (some false)) else (some false)) else (some false)) else (some false)) else (some false)) else (some false)) else (some false))))) = some r := H
    have A6 := Aside0.mk A60
    clear A60
    replace H := Option.bind_eq_some_iff.mp H
    obtain ⟨⟨t154, t155⟩, A70, H⟩ := H
    replace H : ((words_Put.f t154 (wrap64 (1 + (wrap64 (Int.tmod (IntKind.u64.wrap (a1)) 63)))) (wrap64 (64 - (wrap64 (1 + (wrap64 (Int.tmod (IntKind.u64.wrap (a1)) 63)))))) t152).bind fun bt156 => ((words_Get.f a0 0 64).bind fun bt158 => (if t151 = 0 then (if t153 = 0 then (if t155 = 0 then (if bt156.2 = 0 then (if bt158.2 = 0 then (if bt156.1 = a0 then (if bt158.1 = a0 then (if 0 ≤ (wrap64 (1 + (wrap64 (Int.tmod (IntKind.u64.wrap (a1)) 63)))) then (if t150 ≤ (IntKind.u64.wrap ((shl .u64 1 (wrap64 (1 + (wrap64 (Int.tmod (IntKind.u64.wrap (a1)) 63))))) - 1)) then (if 0 ≤ (wrap64 (64 - (wrap64 (1 + (wrap64 (Int.tmod (IntKind.u64.wrap (a1)) 63)))))) then (some (decide (t152 ≤ (IntKind.u64.wrap ((shl .u64 1 (wrap64 (64 - (wrap64 (1 + (wrap64 (Int.tmod (IntKind.u64.wrap (a1)) 63))))))) - 1))))) else (none)) else (some false)) else (none)) else (some false)) else (some false)) else (some false)) else (some false)) else (some false)) else (some false)) else (some false)))) = some r := H
    have A7 := Aside0.mk A70
    clear A70
    replace H := Option.bind_eq_some_iff.mp H
    obtain ⟨⟨t156, t157⟩, A80, H⟩ := H
    replace H : ((words_Get.f a0 0 64).bind fun bt158 => (if t151 = 0 then (if t153 = 0 then (if t155 = 0 then (if t157 = 0 then (if bt158.2 = 0 then (if t156 = a0 then (if bt158.1 = a0 then (if 0 ≤ (wrap64 (1 + (wrap64 (Int.tmod (IntKind.u64.wrap (a1)) 63)))) then (if t150 ≤ (IntKind.u64.wrap ((shl .u64 1 (wrap64 (1 + (wrap64 (Int.tmod (IntKind.u64.wrap (a1)) 63))))) - 1)) then (if 0 ≤ (wrap64 (64 - (wrap64 (1 + (wrap64 (Int.tmod (IntKind.u64.wrap (a1)) 63)))))) then (some (decide (t152 ≤ (IntKind.u64.wrap ((shl .u64 1 (wrap64 (64 - (wrap64 (1 + (wrap64 (Int.tmod (IntKind.u64.wrap (a1)) 63))))))) - 1))))) else (none)) else (some false)) else (none)) else (some false)) else (some false)) else (some false)) else (some false)) else (some false)) else (some false)) else (some false))) = some r := H
    have A8 := Aside0.mk A80
    clear A80
    replace H := Option.bind_eq_some_iff.mp H
    obtain ⟨⟨t158, t159⟩, A90, H⟩ := H
    replace H : (if t151 = 0 then (if t153 = 0 then (if t155 = 0 then (if t157 = 0 then (if t159 = 0 then (if t156 = a0 then (if t158 = a0 then (if 0 ≤ (wrap64 (1 + (wrap64 (Int.tmod (IntKind.u64.wrap (a1)) 63)))) then (if t150 ≤ (IntKind.u64.wrap ((shl .u64 1 (wrap64 (1 + (wrap64 (Int.tmod (IntKind.u64.wrap (a1)) 63))))) - 1)) then (if 0 ≤ (wrap64 (64 - (wrap64 (1 + (wrap64 (Int.tmod (IntKind.u64.wrap (a1)) 63)))))) then (some (decide (t152 ≤ (IntKind.u64.wrap ((shl .u64 1 (wrap64 (64 - (wrap64 (1 + (wrap64 (Int.tmod (IntKind.u64.wrap (a1)) 63))))))) - 1))))) else (none)) else (some false)) else (none)) else (some false)) else (some false)) else (some false)) else (some false)) else (some false)) else (some false)) else (some false)) = some r := H
    have A9 := Aside0.mk A90
    clear A90
    by_cases c10 : t151 = 0
    · rw [if_pos c10] at H
      have c10b0 : (t151 == 0) = true := beq_iff_eq.mpr c10
      have c10b1 : (t151 != 0) = false := bne_eq_false_iff_eq.mpr c10
      clear c10
      by_cases c11 : t153 = 0
      · rw [if_pos c11] at H
        have c11b0 : (t153 == 0) = true := beq_iff_eq.mpr c11
        have c11b1 : (t153 != 0) = false := bne_eq_false_iff_eq.mpr c11
        clear c11
        by_cases c12 : t155 = 0
        · rw [if_pos c12] at H
          have c12b0 : (t155 == 0) = true := beq_iff_eq.mpr c12
          have c12b1 : (t155 != 0) = false := bne_eq_false_iff_eq.mpr c12
          clear c12
          by_cases c13 : t157 = 0
          · rw [if_pos c13] at H
            have c13b0 : (t157 == 0) = true := beq_iff_eq.mpr c13
            have c13b1 : (t157 != 0) = false := bne_eq_false_iff_eq.mpr c13
            clear c13
            by_cases c14 : t159 = 0
            · rw [if_pos c14] at H
              have c14b0 : (t159 == 0) = true := beq_iff_eq.mpr c14
              have c14b1 : (t159 != 0) = false := bne_eq_false_iff_eq.mpr c14
              clear c14
              by_cases c15 : t156 = a0
              · rw [if_pos c15] at H
                have c15b0 : (t156 == a0) = true := beq_iff_eq.mpr c15
                have c15b1 : (t156 != a0) = false := bne_eq_false_iff_eq.mpr c15
                clear c15
                by_cases c16 : t158 = a0
                · rw [if_pos c16] at H
                  have c16b0 : (t158 == a0) = true := beq_iff_eq.mpr c16
                  have c16b1 : (t158 != a0) = false := bne_eq_false_iff_eq.mpr c16
                  clear c16
                  obtain ⟨ji17, hji17⟩ : ∃ j_ : Int, (wrap64 (1 + (wrap64 (Int.tmod (IntKind.u64.wrap (a1)) 63)))) = j_ := ⟨_, rfl⟩
                  replace H : (if 0 ≤ (ji17) then (if t150 ≤ (IntKind.u64.wrap ((shl .u64 1 (ji17)) - 1)) then (if 0 ≤ (wrap64 (64 - (ji17))) then (some (decide (t152 ≤ (IntKind.u64.wrap ((shl .u64 1 (wrap64 (64 - (ji17)))) - 1))))) else (none)) else (some false)) else (none)) = some r := by first | (rw [hji17] at H; exact H) | (simp only [hji17] at H ⊢; exact H)
                  (try rw [hji17] at A3)
                  (try rw [hji17] at A5)
                  (try rw [hji17] at A6)
                  (try rw [hji17] at A7)
                  (try rw [hji17] at A8)
                  (try rw [hji17] at A9)
                  have hji17w : (IntKind.i64.wrap (1 + (wrap64 (Int.tmod (IntKind.u64.wrap (a1)) 63)))) = ji17 := (i64_w _).trans hji17
                  by_cases c18 : 0 ≤ (ji17)
                  · rw [if_pos c18] at H
                    have c18b0 := eq_true c18
                    have c18b1 : decide (0 ≤ (ji17)) = true := decide_eq_true c18
                    clear c18
                    obtain ⟨ji19, hji19⟩ : ∃ j_ : Int, (shl .u64 1 (ji17)) = j_ := ⟨_, rfl⟩
                    replace H : (if t150 ≤ (IntKind.u64.wrap ((ji19) - 1)) then (if 0 ≤ (wrap64 (64 - (ji17))) then (some (decide (t152 ≤ (IntKind.u64.wrap ((shl .u64 1 (wrap64 (64 - (ji17)))) - 1))))) else (none)) else (some false)) = some r := by first | (rw [hji19] at H; exact H) | (simp only [hji19] at H ⊢; exact H)
                    (try rw [hji19] at A3)
                    (try rw [hji19] at A5)
                    (try rw [hji19] at A6)
                    (try rw [hji19] at A7)
                    (try rw [hji19] at A8)
                    (try rw [hji19] at A9)
                    have hji19_ : (IntKind.u64.wrap (1 * 2 ^ min (ji17).toNat 64)) = ji19 := hji19
                    have hji19z : (ji17) ≤ 64 → (IntKind.u64.wrap (1 * 2 ^ (ji17).toNat)) = ji19 := shl_small hji19
                    have hji19u : (IntKind.u64.wrap (2 ^ min (ji17).toNat 64)) = ji19 := by have h_ := hji19_; rw [Int.one_mul] at h_; exact h_
                    have hji19v : (ji17) ≤ 64 → (IntKind.u64.wrap (2 ^ (ji17).toNat)) = ji19 := fun hle_ => by have h_ := hji19z hle_; rw [Int.one_mul] at h_; exact h_
                    by_cases c20 : t150 ≤ (IntKind.u64.wrap ((ji19) - 1))
                    · rw [if_pos c20] at H
                      have c20b0 : decide (t150 ≤ (IntKind.u64.wrap ((ji19) - 1))) = true := decide_eq_true c20
                      clear c20
                      obtain ⟨ji21, hji21⟩ : ∃ j_ : Int, (wrap64 (64 - (ji17))) = j_ := ⟨_, rfl⟩
                      replace H : (if 0 ≤ (ji21) then (some (decide (t152 ≤ (IntKind.u64.wrap ((shl .u64 1 (ji21)) - 1))))) else (none)) = some r := by first | (rw [hji21] at H; exact H) | (simp only [hji21] at H ⊢; exact H)
                      (try rw [hji21] at A3)
                      (try rw [hji21] at A5)
                      (try rw [hji21] at A6)
                      (try rw [hji21] at A7)
                      (try rw [hji21] at A8)
                      (try rw [hji21] at A9)
                      have hji21w : (IntKind.i64.wrap (64 - (ji17))) = ji21 := (i64_w _).trans hji21
                      by_cases c22 : 0 ≤ (ji21)
                      · rw [if_pos c22] at H
                        have c22b0 := eq_true c22
                        have c22b1 : decide (0 ≤ (ji21)) = true := decide_eq_true c22
                        clear c22
                        obtain ⟨ji23, hji23⟩ : ∃ j_ : Int, (shl .u64 1 (ji21)) = j_ := ⟨_, rfl⟩
                        replace H : (some (decide (t152 ≤ (IntKind.u64.wrap ((ji23) - 1))))) = some r := by first | (rw [hji23] at H; exact H) | (simp only [hji23] at H ⊢; exact H)
                        (try rw [hji23] at A3)
                        (try rw [hji23] at A5)
                        (try rw [hji23] at A6)
                        (try rw [hji23] at A7)
                        (try rw [hji23] at A8)
                        (try rw [hji23] at A9)
                        have hji23_ : (IntKind.u64.wrap (1 * 2 ^ min (ji21).toNat 64)) = ji23 := hji23
                        have hji23z : (ji21) ≤ 64 → (IntKind.u64.wrap (1 * 2 ^ (ji21).toNat)) = ji23 := shl_small hji23
                        have hji23u : (IntKind.u64.wrap (2 ^ min (ji21).toNat 64)) = ji23 := by have h_ := hji23_; rw [Int.one_mul] at h_; exact h_
                        have hji23v : (ji21) ≤ 64 → (IntKind.u64.wrap (2 ^ (ji21).toNat)) = ji23 := fun hle_ => by have h_ := hji23z hle_; rw [Int.one_mul] at h_; exact h_
                        obtain rfl := Option.some.inj H
                        go_enter Try.func6, Try.ntmps6
                        go_wp2_with (first | ((with_reducible refine gate_callee (f := 9) rfl ?_); refine goesL_ (some 16) rfl rfl Try.func9 (by kernel_rfl) rfl #[] rfl (by (try simp only [List.map_toArray, List.map_cons, List.map_nil]); first | done | rfl | (simp only [List.length_drop, List.length_take]; rfl)) ?_; (with_reducible refine (escritoirelaw01_lives.calls  true _ A3.out).mono ?_); rintro e w24 ⟨rfl, hb⟩; refine ⟨_, rfl, ?_⟩; have n0_ := Aside0.mk (below_step (by repeat (first | (with_reducible first | exact HB.out | apply below_alloc | apply pw_below_drewN | apply below_drew1) | exact HB.out)) hb); clear HB; have HB := n0_; clear n0_; (try clear hb); (try clear hb2); (try clear hk); (try clear hi)) | ((with_reducible refine gate_callee (f := 11) rfl ?_); refine goesL_ (some 26) rfl rfl Try.func11 (by kernel_rfl) rfl #[.int .u64 a0, .int .i64 0, .int .i64 ji17] rfl (by (try simp only [List.map_toArray, List.map_cons, List.map_nil]); first | done | (simp only [hji17]; rfl) | rfl | (simp only [List.length_drop, List.length_take]; rfl)) ?_; (with_reducible refine (words_Get.calls a0 0 ji17 t150 t151 _ A5.out).mono ?_); rintro e w' ⟨rfl, ⟨nd, rfl⟩⟩; refine ⟨_, rfl, ?_⟩) | ((with_reducible refine gate_callee (f := 11) rfl ?_); refine goesL_ (some 34) rfl rfl Try.func11 (by kernel_rfl) rfl #[.int .u64 a0, .int .i64 ji17, .int .i64 ji21] rfl (by (try simp only [List.map_toArray, List.map_cons, List.map_nil]); first | done | (simp only [hji17, hji21]; rfl) | rfl | (simp only [List.length_drop, List.length_take]; rfl)) ?_; (with_reducible refine (words_Get.calls a0 ji17 ji21 t152 t153 _ A6.out).mono ?_); rintro e w' ⟨rfl, ⟨nd, rfl⟩⟩; refine ⟨_, rfl, ?_⟩) | ((with_reducible refine gate_callee (f := 13) rfl ?_); refine goesL_ (some 40) rfl rfl Try.func13 (by kernel_rfl) rfl #[.int .u64 0, .int .i64 0, .int .i64 ji17, .int .u64 t150] rfl (by (try simp only [List.map_toArray, List.map_cons, List.map_nil]); first | done | (simp only [hji17]; rfl) | rfl | (simp only [List.length_drop, List.length_take]; rfl)) ?_; (with_reducible refine (words_Put.calls 0 0 ji17 t150 t154 t155 _ A7.out).mono ?_); rintro e w' ⟨rfl, ⟨nd, rfl⟩⟩; refine ⟨_, rfl, ?_⟩) | ((with_reducible refine gate_callee (f := 13) rfl ?_); refine goesL_ (some 49) rfl rfl Try.func13 (by kernel_rfl) rfl #[.int .u64 t154, .int .i64 ji17, .int .i64 ji21, .int .u64 t152] rfl (by (try simp only [List.map_toArray, List.map_cons, List.map_nil]); first | done | (simp only [hji17, hji21]; rfl) | rfl | (simp only [List.length_drop, List.length_take]; rfl)) ?_; (with_reducible refine (words_Put.calls t154 ji17 ji21 t152 t156 t157 _ A8.out).mono ?_); rintro e w' ⟨rfl, ⟨nd, rfl⟩⟩; refine ⟨_, rfl, ?_⟩) | ((with_reducible refine gate_callee (f := 11) rfl ?_); refine goesL_ (some 54) rfl rfl Try.func11 (by kernel_rfl) rfl #[.int .u64 a0, .int .i64 0, .int .i64 64] rfl (by (try simp only [List.map_toArray, List.map_cons, List.map_nil]); first | done | rfl | (simp only [List.length_drop, List.length_take]; rfl)) ?_; (with_reducible refine (words_Get.calls a0 0 64 t158 t159 _ A9.out).mono ?_); rintro e w' ⟨rfl, ⟨nd, rfl⟩⟩; refine ⟨_, rfl, ?_⟩))
                        go_ret
                        exact ⟨by first | rfl | (simp [errW_none, errW_some] <;> rfl) | (simp only [← hji17, ← hji19, ← hji21, ← hji23]; first | rfl | (simp [errW_none, errW_some] <;> rfl)) | (simp [*, errW_none, errW_some] <;> rfl), by repeat (first | (with_reducible first | exact HB.out | apply below_alloc | apply pw_below_drewN | apply below_drew1) | exact HB.out)⟩
                      · rw [if_neg c22] at H
                        exact absurd H (by simp)
                    · rw [if_neg c20] at H
                      have c20b0 : decide (t150 ≤ (IntKind.u64.wrap ((ji19) - 1))) = false := decide_eq_false c20
                      clear c20
                      obtain rfl := Option.some.inj H
                      go_enter Try.func6, Try.ntmps6
                      go_wp2_with (first | ((with_reducible refine gate_callee (f := 9) rfl ?_); refine goesL_ (some 16) rfl rfl Try.func9 (by kernel_rfl) rfl #[] rfl (by (try simp only [List.map_toArray, List.map_cons, List.map_nil]); first | done | rfl | (simp only [List.length_drop, List.length_take]; rfl)) ?_; (with_reducible refine (escritoirelaw01_lives.calls  true _ A3.out).mono ?_); rintro e w25 ⟨rfl, hb⟩; refine ⟨_, rfl, ?_⟩; have n0_ := Aside0.mk (below_step (by repeat (first | (with_reducible first | exact HB.out | apply below_alloc | apply pw_below_drewN | apply below_drew1) | exact HB.out)) hb); clear HB; have HB := n0_; clear n0_; (try clear hb); (try clear hb2); (try clear hk); (try clear hi)) | ((with_reducible refine gate_callee (f := 11) rfl ?_); refine goesL_ (some 26) rfl rfl Try.func11 (by kernel_rfl) rfl #[.int .u64 a0, .int .i64 0, .int .i64 ji17] rfl (by (try simp only [List.map_toArray, List.map_cons, List.map_nil]); first | done | (simp only [hji17]; rfl) | rfl | (simp only [List.length_drop, List.length_take]; rfl)) ?_; (with_reducible refine (words_Get.calls a0 0 ji17 t150 t151 _ A5.out).mono ?_); rintro e w' ⟨rfl, ⟨nd, rfl⟩⟩; refine ⟨_, rfl, ?_⟩) | ((with_reducible refine gate_callee (f := 11) rfl ?_); refine goesL_ (some 34) rfl rfl Try.func11 (by kernel_rfl) rfl #[.int .u64 a0, .int .i64 ji17, .int .i64 (wrap64 (64 - (ji17)))] rfl (by (try simp only [List.map_toArray, List.map_cons, List.map_nil]); first | done | (simp only [hji17]; rfl) | rfl | (simp only [List.length_drop, List.length_take]; rfl)) ?_; (with_reducible refine (words_Get.calls a0 ji17 (wrap64 (64 - (ji17))) t152 t153 _ A6.out).mono ?_); rintro e w' ⟨rfl, ⟨nd, rfl⟩⟩; refine ⟨_, rfl, ?_⟩) | ((with_reducible refine gate_callee (f := 13) rfl ?_); refine goesL_ (some 40) rfl rfl Try.func13 (by kernel_rfl) rfl #[.int .u64 0, .int .i64 0, .int .i64 ji17, .int .u64 t150] rfl (by (try simp only [List.map_toArray, List.map_cons, List.map_nil]); first | done | (simp only [hji17]; rfl) | rfl | (simp only [List.length_drop, List.length_take]; rfl)) ?_; (with_reducible refine (words_Put.calls 0 0 ji17 t150 t154 t155 _ A7.out).mono ?_); rintro e w' ⟨rfl, ⟨nd, rfl⟩⟩; refine ⟨_, rfl, ?_⟩) | ((with_reducible refine gate_callee (f := 13) rfl ?_); refine goesL_ (some 49) rfl rfl Try.func13 (by kernel_rfl) rfl #[.int .u64 t154, .int .i64 ji17, .int .i64 (wrap64 (64 - (ji17))), .int .u64 t152] rfl (by (try simp only [List.map_toArray, List.map_cons, List.map_nil]); first | done | (simp only [hji17]; rfl) | rfl | (simp only [List.length_drop, List.length_take]; rfl)) ?_; (with_reducible refine (words_Put.calls t154 ji17 (wrap64 (64 - (ji17))) t152 t156 t157 _ A8.out).mono ?_); rintro e w' ⟨rfl, ⟨nd, rfl⟩⟩; refine ⟨_, rfl, ?_⟩) | ((with_reducible refine gate_callee (f := 11) rfl ?_); refine goesL_ (some 54) rfl rfl Try.func11 (by kernel_rfl) rfl #[.int .u64 a0, .int .i64 0, .int .i64 64] rfl (by (try simp only [List.map_toArray, List.map_cons, List.map_nil]); first | done | rfl | (simp only [List.length_drop, List.length_take]; rfl)) ?_; (with_reducible refine (words_Get.calls a0 0 64 t158 t159 _ A9.out).mono ?_); rintro e w' ⟨rfl, ⟨nd, rfl⟩⟩; refine ⟨_, rfl, ?_⟩))
                      go_ret
                      exact ⟨by first | rfl | (simp [errW_none, errW_some] <;> rfl) | (simp only [← hji17, ← hji19]; first | rfl | (simp [errW_none, errW_some] <;> rfl)) | (simp [*, errW_none, errW_some] <;> rfl), by repeat (first | (with_reducible first | exact HB.out | apply below_alloc | apply pw_below_drewN | apply below_drew1) | exact HB.out)⟩
                  · rw [if_neg c18] at H
                    exact absurd H (by simp)
                · rw [if_neg c16] at H
                  have c16b0 : (t158 == a0) = false := beq_eq_false_iff_ne.mpr c16
                  have c16b1 : (t158 != a0) = true := bne_iff_ne.mpr c16
                  obtain rfl := Option.some.inj H
                  go_enter Try.func6, Try.ntmps6
                  go_wp2_with (first | ((with_reducible refine gate_callee (f := 9) rfl ?_); refine goesL_ (some 16) rfl rfl Try.func9 (by kernel_rfl) rfl #[] rfl (by (try simp only [List.map_toArray, List.map_cons, List.map_nil]); first | done | rfl | (simp only [List.length_drop, List.length_take]; rfl)) ?_; (with_reducible refine (escritoirelaw01_lives.calls  true _ A3.out).mono ?_); rintro e w26 ⟨rfl, hb⟩; refine ⟨_, rfl, ?_⟩; have n0_ := Aside0.mk (below_step (by repeat (first | (with_reducible first | exact HB.out | apply below_alloc | apply pw_below_drewN | apply below_drew1) | exact HB.out)) hb); clear HB; have HB := n0_; clear n0_; (try clear hb); (try clear hb2); (try clear hk); (try clear hi)) | ((with_reducible refine gate_callee (f := 11) rfl ?_); refine goesL_ (some 26) rfl rfl Try.func11 (by kernel_rfl) rfl #[.int .u64 a0, .int .i64 0, .int .i64 (wrap64 (1 + (wrap64 (Int.tmod (IntKind.u64.wrap (a1)) 63))))] rfl (by (try simp only [List.map_toArray, List.map_cons, List.map_nil]); first | done | rfl | (simp only [List.length_drop, List.length_take]; rfl)) ?_; (with_reducible refine (words_Get.calls a0 0 (wrap64 (1 + (wrap64 (Int.tmod (IntKind.u64.wrap (a1)) 63)))) t150 t151 _ A5.out).mono ?_); rintro e w' ⟨rfl, ⟨nd, rfl⟩⟩; refine ⟨_, rfl, ?_⟩) | ((with_reducible refine gate_callee (f := 11) rfl ?_); refine goesL_ (some 34) rfl rfl Try.func11 (by kernel_rfl) rfl #[.int .u64 a0, .int .i64 (wrap64 (1 + (wrap64 (Int.tmod (IntKind.u64.wrap (a1)) 63)))), .int .i64 (wrap64 (64 - (wrap64 (1 + (wrap64 (Int.tmod (IntKind.u64.wrap (a1)) 63))))))] rfl (by (try simp only [List.map_toArray, List.map_cons, List.map_nil]); first | done | rfl | (simp only [List.length_drop, List.length_take]; rfl)) ?_; (with_reducible refine (words_Get.calls a0 (wrap64 (1 + (wrap64 (Int.tmod (IntKind.u64.wrap (a1)) 63)))) (wrap64 (64 - (wrap64 (1 + (wrap64 (Int.tmod (IntKind.u64.wrap (a1)) 63)))))) t152 t153 _ A6.out).mono ?_); rintro e w' ⟨rfl, ⟨nd, rfl⟩⟩; refine ⟨_, rfl, ?_⟩) | ((with_reducible refine gate_callee (f := 13) rfl ?_); refine goesL_ (some 40) rfl rfl Try.func13 (by kernel_rfl) rfl #[.int .u64 0, .int .i64 0, .int .i64 (wrap64 (1 + (wrap64 (Int.tmod (IntKind.u64.wrap (a1)) 63)))), .int .u64 t150] rfl (by (try simp only [List.map_toArray, List.map_cons, List.map_nil]); first | done | rfl | (simp only [List.length_drop, List.length_take]; rfl)) ?_; (with_reducible refine (words_Put.calls 0 0 (wrap64 (1 + (wrap64 (Int.tmod (IntKind.u64.wrap (a1)) 63)))) t150 t154 t155 _ A7.out).mono ?_); rintro e w' ⟨rfl, ⟨nd, rfl⟩⟩; refine ⟨_, rfl, ?_⟩) | ((with_reducible refine gate_callee (f := 13) rfl ?_); refine goesL_ (some 49) rfl rfl Try.func13 (by kernel_rfl) rfl #[.int .u64 t154, .int .i64 (wrap64 (1 + (wrap64 (Int.tmod (IntKind.u64.wrap (a1)) 63)))), .int .i64 (wrap64 (64 - (wrap64 (1 + (wrap64 (Int.tmod (IntKind.u64.wrap (a1)) 63)))))), .int .u64 t152] rfl (by (try simp only [List.map_toArray, List.map_cons, List.map_nil]); first | done | rfl | (simp only [List.length_drop, List.length_take]; rfl)) ?_; (with_reducible refine (words_Put.calls t154 (wrap64 (1 + (wrap64 (Int.tmod (IntKind.u64.wrap (a1)) 63)))) (wrap64 (64 - (wrap64 (1 + (wrap64 (Int.tmod (IntKind.u64.wrap (a1)) 63)))))) t152 t156 t157 _ A8.out).mono ?_); rintro e w' ⟨rfl, ⟨nd, rfl⟩⟩; refine ⟨_, rfl, ?_⟩) | ((with_reducible refine gate_callee (f := 11) rfl ?_); refine goesL_ (some 54) rfl rfl Try.func11 (by kernel_rfl) rfl #[.int .u64 a0, .int .i64 0, .int .i64 64] rfl (by (try simp only [List.map_toArray, List.map_cons, List.map_nil]); first | done | rfl | (simp only [List.length_drop, List.length_take]; rfl)) ?_; (with_reducible refine (words_Get.calls a0 0 64 t158 t159 _ A9.out).mono ?_); rintro e w' ⟨rfl, ⟨nd, rfl⟩⟩; refine ⟨_, rfl, ?_⟩))
                  go_ret
                  exact ⟨by first | rfl | (simp [errW_none, errW_some] <;> rfl) | (simp [*, errW_none, errW_some] <;> rfl), by repeat (first | (with_reducible first | exact HB.out | apply below_alloc | apply pw_below_drewN | apply below_drew1) | exact HB.out)⟩
              · rw [if_neg c15] at H
                have c15b0 : (t156 == a0) = false := beq_eq_false_iff_ne.mpr c15
                have c15b1 : (t156 != a0) = true := bne_iff_ne.mpr c15
                obtain rfl := Option.some.inj H
                go_enter Try.func6, Try.ntmps6
                go_wp2_with (first | ((with_reducible refine gate_callee (f := 9) rfl ?_); refine goesL_ (some 16) rfl rfl Try.func9 (by kernel_rfl) rfl #[] rfl (by (try simp only [List.map_toArray, List.map_cons, List.map_nil]); first | done | rfl | (simp only [List.length_drop, List.length_take]; rfl)) ?_; (with_reducible refine (escritoirelaw01_lives.calls  true _ A3.out).mono ?_); rintro e w27 ⟨rfl, hb⟩; refine ⟨_, rfl, ?_⟩; have n0_ := Aside0.mk (below_step (by repeat (first | (with_reducible first | exact HB.out | apply below_alloc | apply pw_below_drewN | apply below_drew1) | exact HB.out)) hb); clear HB; have HB := n0_; clear n0_; (try clear hb); (try clear hb2); (try clear hk); (try clear hi)) | ((with_reducible refine gate_callee (f := 11) rfl ?_); refine goesL_ (some 26) rfl rfl Try.func11 (by kernel_rfl) rfl #[.int .u64 a0, .int .i64 0, .int .i64 (wrap64 (1 + (wrap64 (Int.tmod (IntKind.u64.wrap (a1)) 63))))] rfl (by (try simp only [List.map_toArray, List.map_cons, List.map_nil]); first | done | rfl | (simp only [List.length_drop, List.length_take]; rfl)) ?_; (with_reducible refine (words_Get.calls a0 0 (wrap64 (1 + (wrap64 (Int.tmod (IntKind.u64.wrap (a1)) 63)))) t150 t151 _ A5.out).mono ?_); rintro e w' ⟨rfl, ⟨nd, rfl⟩⟩; refine ⟨_, rfl, ?_⟩) | ((with_reducible refine gate_callee (f := 11) rfl ?_); refine goesL_ (some 34) rfl rfl Try.func11 (by kernel_rfl) rfl #[.int .u64 a0, .int .i64 (wrap64 (1 + (wrap64 (Int.tmod (IntKind.u64.wrap (a1)) 63)))), .int .i64 (wrap64 (64 - (wrap64 (1 + (wrap64 (Int.tmod (IntKind.u64.wrap (a1)) 63))))))] rfl (by (try simp only [List.map_toArray, List.map_cons, List.map_nil]); first | done | rfl | (simp only [List.length_drop, List.length_take]; rfl)) ?_; (with_reducible refine (words_Get.calls a0 (wrap64 (1 + (wrap64 (Int.tmod (IntKind.u64.wrap (a1)) 63)))) (wrap64 (64 - (wrap64 (1 + (wrap64 (Int.tmod (IntKind.u64.wrap (a1)) 63)))))) t152 t153 _ A6.out).mono ?_); rintro e w' ⟨rfl, ⟨nd, rfl⟩⟩; refine ⟨_, rfl, ?_⟩) | ((with_reducible refine gate_callee (f := 13) rfl ?_); refine goesL_ (some 40) rfl rfl Try.func13 (by kernel_rfl) rfl #[.int .u64 0, .int .i64 0, .int .i64 (wrap64 (1 + (wrap64 (Int.tmod (IntKind.u64.wrap (a1)) 63)))), .int .u64 t150] rfl (by (try simp only [List.map_toArray, List.map_cons, List.map_nil]); first | done | rfl | (simp only [List.length_drop, List.length_take]; rfl)) ?_; (with_reducible refine (words_Put.calls 0 0 (wrap64 (1 + (wrap64 (Int.tmod (IntKind.u64.wrap (a1)) 63)))) t150 t154 t155 _ A7.out).mono ?_); rintro e w' ⟨rfl, ⟨nd, rfl⟩⟩; refine ⟨_, rfl, ?_⟩) | ((with_reducible refine gate_callee (f := 13) rfl ?_); refine goesL_ (some 49) rfl rfl Try.func13 (by kernel_rfl) rfl #[.int .u64 t154, .int .i64 (wrap64 (1 + (wrap64 (Int.tmod (IntKind.u64.wrap (a1)) 63)))), .int .i64 (wrap64 (64 - (wrap64 (1 + (wrap64 (Int.tmod (IntKind.u64.wrap (a1)) 63)))))), .int .u64 t152] rfl (by (try simp only [List.map_toArray, List.map_cons, List.map_nil]); first | done | rfl | (simp only [List.length_drop, List.length_take]; rfl)) ?_; (with_reducible refine (words_Put.calls t154 (wrap64 (1 + (wrap64 (Int.tmod (IntKind.u64.wrap (a1)) 63)))) (wrap64 (64 - (wrap64 (1 + (wrap64 (Int.tmod (IntKind.u64.wrap (a1)) 63)))))) t152 t156 t157 _ A8.out).mono ?_); rintro e w' ⟨rfl, ⟨nd, rfl⟩⟩; refine ⟨_, rfl, ?_⟩) | ((with_reducible refine gate_callee (f := 11) rfl ?_); refine goesL_ (some 54) rfl rfl Try.func11 (by kernel_rfl) rfl #[.int .u64 a0, .int .i64 0, .int .i64 64] rfl (by (try simp only [List.map_toArray, List.map_cons, List.map_nil]); first | done | rfl | (simp only [List.length_drop, List.length_take]; rfl)) ?_; (with_reducible refine (words_Get.calls a0 0 64 t158 t159 _ A9.out).mono ?_); rintro e w' ⟨rfl, ⟨nd, rfl⟩⟩; refine ⟨_, rfl, ?_⟩))
                go_ret
                exact ⟨by first | rfl | (simp [errW_none, errW_some] <;> rfl) | (simp [*, errW_none, errW_some] <;> rfl), by repeat (first | (with_reducible first | exact HB.out | apply below_alloc | apply pw_below_drewN | apply below_drew1) | exact HB.out)⟩
            · rw [if_neg c14] at H
              have c14b0 : (t159 == 0) = false := beq_eq_false_iff_ne.mpr c14
              have c14b1 : (t159 != 0) = true := bne_iff_ne.mpr c14
              obtain rfl := Option.some.inj H
              go_enter Try.func6, Try.ntmps6
              go_wp2_with (first | ((with_reducible refine gate_callee (f := 9) rfl ?_); refine goesL_ (some 16) rfl rfl Try.func9 (by kernel_rfl) rfl #[] rfl (by (try simp only [List.map_toArray, List.map_cons, List.map_nil]); first | done | rfl | (simp only [List.length_drop, List.length_take]; rfl)) ?_; (with_reducible refine (escritoirelaw01_lives.calls  true _ A3.out).mono ?_); rintro e w28 ⟨rfl, hb⟩; refine ⟨_, rfl, ?_⟩; have n0_ := Aside0.mk (below_step (by repeat (first | (with_reducible first | exact HB.out | apply below_alloc | apply pw_below_drewN | apply below_drew1) | exact HB.out)) hb); clear HB; have HB := n0_; clear n0_; (try clear hb); (try clear hb2); (try clear hk); (try clear hi)) | ((with_reducible refine gate_callee (f := 11) rfl ?_); refine goesL_ (some 26) rfl rfl Try.func11 (by kernel_rfl) rfl #[.int .u64 a0, .int .i64 0, .int .i64 (wrap64 (1 + (wrap64 (Int.tmod (IntKind.u64.wrap (a1)) 63))))] rfl (by (try simp only [List.map_toArray, List.map_cons, List.map_nil]); first | done | rfl | (simp only [List.length_drop, List.length_take]; rfl)) ?_; (with_reducible refine (words_Get.calls a0 0 (wrap64 (1 + (wrap64 (Int.tmod (IntKind.u64.wrap (a1)) 63)))) t150 t151 _ A5.out).mono ?_); rintro e w' ⟨rfl, ⟨nd, rfl⟩⟩; refine ⟨_, rfl, ?_⟩) | ((with_reducible refine gate_callee (f := 11) rfl ?_); refine goesL_ (some 34) rfl rfl Try.func11 (by kernel_rfl) rfl #[.int .u64 a0, .int .i64 (wrap64 (1 + (wrap64 (Int.tmod (IntKind.u64.wrap (a1)) 63)))), .int .i64 (wrap64 (64 - (wrap64 (1 + (wrap64 (Int.tmod (IntKind.u64.wrap (a1)) 63))))))] rfl (by (try simp only [List.map_toArray, List.map_cons, List.map_nil]); first | done | rfl | (simp only [List.length_drop, List.length_take]; rfl)) ?_; (with_reducible refine (words_Get.calls a0 (wrap64 (1 + (wrap64 (Int.tmod (IntKind.u64.wrap (a1)) 63)))) (wrap64 (64 - (wrap64 (1 + (wrap64 (Int.tmod (IntKind.u64.wrap (a1)) 63)))))) t152 t153 _ A6.out).mono ?_); rintro e w' ⟨rfl, ⟨nd, rfl⟩⟩; refine ⟨_, rfl, ?_⟩) | ((with_reducible refine gate_callee (f := 13) rfl ?_); refine goesL_ (some 40) rfl rfl Try.func13 (by kernel_rfl) rfl #[.int .u64 0, .int .i64 0, .int .i64 (wrap64 (1 + (wrap64 (Int.tmod (IntKind.u64.wrap (a1)) 63)))), .int .u64 t150] rfl (by (try simp only [List.map_toArray, List.map_cons, List.map_nil]); first | done | rfl | (simp only [List.length_drop, List.length_take]; rfl)) ?_; (with_reducible refine (words_Put.calls 0 0 (wrap64 (1 + (wrap64 (Int.tmod (IntKind.u64.wrap (a1)) 63)))) t150 t154 t155 _ A7.out).mono ?_); rintro e w' ⟨rfl, ⟨nd, rfl⟩⟩; refine ⟨_, rfl, ?_⟩) | ((with_reducible refine gate_callee (f := 13) rfl ?_); refine goesL_ (some 49) rfl rfl Try.func13 (by kernel_rfl) rfl #[.int .u64 t154, .int .i64 (wrap64 (1 + (wrap64 (Int.tmod (IntKind.u64.wrap (a1)) 63)))), .int .i64 (wrap64 (64 - (wrap64 (1 + (wrap64 (Int.tmod (IntKind.u64.wrap (a1)) 63)))))), .int .u64 t152] rfl (by (try simp only [List.map_toArray, List.map_cons, List.map_nil]); first | done | rfl | (simp only [List.length_drop, List.length_take]; rfl)) ?_; (with_reducible refine (words_Put.calls t154 (wrap64 (1 + (wrap64 (Int.tmod (IntKind.u64.wrap (a1)) 63)))) (wrap64 (64 - (wrap64 (1 + (wrap64 (Int.tmod (IntKind.u64.wrap (a1)) 63)))))) t152 t156 t157 _ A8.out).mono ?_); rintro e w' ⟨rfl, ⟨nd, rfl⟩⟩; refine ⟨_, rfl, ?_⟩) | ((with_reducible refine gate_callee (f := 11) rfl ?_); refine goesL_ (some 54) rfl rfl Try.func11 (by kernel_rfl) rfl #[.int .u64 a0, .int .i64 0, .int .i64 64] rfl (by (try simp only [List.map_toArray, List.map_cons, List.map_nil]); first | done | rfl | (simp only [List.length_drop, List.length_take]; rfl)) ?_; (with_reducible refine (words_Get.calls a0 0 64 t158 t159 _ A9.out).mono ?_); rintro e w' ⟨rfl, ⟨nd, rfl⟩⟩; refine ⟨_, rfl, ?_⟩))
              go_ret
              exact ⟨by first | rfl | (simp [errW_none, errW_some] <;> rfl) | (simp [*, errW_none, errW_some] <;> rfl), by repeat (first | (with_reducible first | exact HB.out | apply below_alloc | apply pw_below_drewN | apply below_drew1) | exact HB.out)⟩
          · rw [if_neg c13] at H
            have c13b0 : (t157 == 0) = false := beq_eq_false_iff_ne.mpr c13
            have c13b1 : (t157 != 0) = true := bne_iff_ne.mpr c13
            obtain rfl := Option.some.inj H
            go_enter Try.func6, Try.ntmps6
            go_wp2_with (first | ((with_reducible refine gate_callee (f := 9) rfl ?_); refine goesL_ (some 16) rfl rfl Try.func9 (by kernel_rfl) rfl #[] rfl (by (try simp only [List.map_toArray, List.map_cons, List.map_nil]); first | done | rfl | (simp only [List.length_drop, List.length_take]; rfl)) ?_; (with_reducible refine (escritoirelaw01_lives.calls  true _ A3.out).mono ?_); rintro e w29 ⟨rfl, hb⟩; refine ⟨_, rfl, ?_⟩; have n0_ := Aside0.mk (below_step (by repeat (first | (with_reducible first | exact HB.out | apply below_alloc | apply pw_below_drewN | apply below_drew1) | exact HB.out)) hb); clear HB; have HB := n0_; clear n0_; (try clear hb); (try clear hb2); (try clear hk); (try clear hi)) | ((with_reducible refine gate_callee (f := 11) rfl ?_); refine goesL_ (some 26) rfl rfl Try.func11 (by kernel_rfl) rfl #[.int .u64 a0, .int .i64 0, .int .i64 (wrap64 (1 + (wrap64 (Int.tmod (IntKind.u64.wrap (a1)) 63))))] rfl (by (try simp only [List.map_toArray, List.map_cons, List.map_nil]); first | done | rfl | (simp only [List.length_drop, List.length_take]; rfl)) ?_; (with_reducible refine (words_Get.calls a0 0 (wrap64 (1 + (wrap64 (Int.tmod (IntKind.u64.wrap (a1)) 63)))) t150 t151 _ A5.out).mono ?_); rintro e w' ⟨rfl, ⟨nd, rfl⟩⟩; refine ⟨_, rfl, ?_⟩) | ((with_reducible refine gate_callee (f := 11) rfl ?_); refine goesL_ (some 34) rfl rfl Try.func11 (by kernel_rfl) rfl #[.int .u64 a0, .int .i64 (wrap64 (1 + (wrap64 (Int.tmod (IntKind.u64.wrap (a1)) 63)))), .int .i64 (wrap64 (64 - (wrap64 (1 + (wrap64 (Int.tmod (IntKind.u64.wrap (a1)) 63))))))] rfl (by (try simp only [List.map_toArray, List.map_cons, List.map_nil]); first | done | rfl | (simp only [List.length_drop, List.length_take]; rfl)) ?_; (with_reducible refine (words_Get.calls a0 (wrap64 (1 + (wrap64 (Int.tmod (IntKind.u64.wrap (a1)) 63)))) (wrap64 (64 - (wrap64 (1 + (wrap64 (Int.tmod (IntKind.u64.wrap (a1)) 63)))))) t152 t153 _ A6.out).mono ?_); rintro e w' ⟨rfl, ⟨nd, rfl⟩⟩; refine ⟨_, rfl, ?_⟩) | ((with_reducible refine gate_callee (f := 13) rfl ?_); refine goesL_ (some 40) rfl rfl Try.func13 (by kernel_rfl) rfl #[.int .u64 0, .int .i64 0, .int .i64 (wrap64 (1 + (wrap64 (Int.tmod (IntKind.u64.wrap (a1)) 63)))), .int .u64 t150] rfl (by (try simp only [List.map_toArray, List.map_cons, List.map_nil]); first | done | rfl | (simp only [List.length_drop, List.length_take]; rfl)) ?_; (with_reducible refine (words_Put.calls 0 0 (wrap64 (1 + (wrap64 (Int.tmod (IntKind.u64.wrap (a1)) 63)))) t150 t154 t155 _ A7.out).mono ?_); rintro e w' ⟨rfl, ⟨nd, rfl⟩⟩; refine ⟨_, rfl, ?_⟩) | ((with_reducible refine gate_callee (f := 13) rfl ?_); refine goesL_ (some 49) rfl rfl Try.func13 (by kernel_rfl) rfl #[.int .u64 t154, .int .i64 (wrap64 (1 + (wrap64 (Int.tmod (IntKind.u64.wrap (a1)) 63)))), .int .i64 (wrap64 (64 - (wrap64 (1 + (wrap64 (Int.tmod (IntKind.u64.wrap (a1)) 63)))))), .int .u64 t152] rfl (by (try simp only [List.map_toArray, List.map_cons, List.map_nil]); first | done | rfl | (simp only [List.length_drop, List.length_take]; rfl)) ?_; (with_reducible refine (words_Put.calls t154 (wrap64 (1 + (wrap64 (Int.tmod (IntKind.u64.wrap (a1)) 63)))) (wrap64 (64 - (wrap64 (1 + (wrap64 (Int.tmod (IntKind.u64.wrap (a1)) 63)))))) t152 t156 t157 _ A8.out).mono ?_); rintro e w' ⟨rfl, ⟨nd, rfl⟩⟩; refine ⟨_, rfl, ?_⟩) | ((with_reducible refine gate_callee (f := 11) rfl ?_); refine goesL_ (some 54) rfl rfl Try.func11 (by kernel_rfl) rfl #[.int .u64 a0, .int .i64 0, .int .i64 64] rfl (by (try simp only [List.map_toArray, List.map_cons, List.map_nil]); first | done | rfl | (simp only [List.length_drop, List.length_take]; rfl)) ?_; (with_reducible refine (words_Get.calls a0 0 64 t158 t159 _ A9.out).mono ?_); rintro e w' ⟨rfl, ⟨nd, rfl⟩⟩; refine ⟨_, rfl, ?_⟩))
            go_ret
            exact ⟨by first | rfl | (simp [errW_none, errW_some] <;> rfl) | (simp [*, errW_none, errW_some] <;> rfl), by repeat (first | (with_reducible first | exact HB.out | apply below_alloc | apply pw_below_drewN | apply below_drew1) | exact HB.out)⟩
        · rw [if_neg c12] at H
          have c12b0 : (t155 == 0) = false := beq_eq_false_iff_ne.mpr c12
          have c12b1 : (t155 != 0) = true := bne_iff_ne.mpr c12
          obtain rfl := Option.some.inj H
          go_enter Try.func6, Try.ntmps6
          go_wp2_with (first | ((with_reducible refine gate_callee (f := 9) rfl ?_); refine goesL_ (some 16) rfl rfl Try.func9 (by kernel_rfl) rfl #[] rfl (by (try simp only [List.map_toArray, List.map_cons, List.map_nil]); first | done | rfl | (simp only [List.length_drop, List.length_take]; rfl)) ?_; (with_reducible refine (escritoirelaw01_lives.calls  true _ A3.out).mono ?_); rintro e w30 ⟨rfl, hb⟩; refine ⟨_, rfl, ?_⟩; have n0_ := Aside0.mk (below_step (by repeat (first | (with_reducible first | exact HB.out | apply below_alloc | apply pw_below_drewN | apply below_drew1) | exact HB.out)) hb); clear HB; have HB := n0_; clear n0_; (try clear hb); (try clear hb2); (try clear hk); (try clear hi)) | ((with_reducible refine gate_callee (f := 11) rfl ?_); refine goesL_ (some 26) rfl rfl Try.func11 (by kernel_rfl) rfl #[.int .u64 a0, .int .i64 0, .int .i64 (wrap64 (1 + (wrap64 (Int.tmod (IntKind.u64.wrap (a1)) 63))))] rfl (by (try simp only [List.map_toArray, List.map_cons, List.map_nil]); first | done | rfl | (simp only [List.length_drop, List.length_take]; rfl)) ?_; (with_reducible refine (words_Get.calls a0 0 (wrap64 (1 + (wrap64 (Int.tmod (IntKind.u64.wrap (a1)) 63)))) t150 t151 _ A5.out).mono ?_); rintro e w' ⟨rfl, ⟨nd, rfl⟩⟩; refine ⟨_, rfl, ?_⟩) | ((with_reducible refine gate_callee (f := 11) rfl ?_); refine goesL_ (some 34) rfl rfl Try.func11 (by kernel_rfl) rfl #[.int .u64 a0, .int .i64 (wrap64 (1 + (wrap64 (Int.tmod (IntKind.u64.wrap (a1)) 63)))), .int .i64 (wrap64 (64 - (wrap64 (1 + (wrap64 (Int.tmod (IntKind.u64.wrap (a1)) 63))))))] rfl (by (try simp only [List.map_toArray, List.map_cons, List.map_nil]); first | done | rfl | (simp only [List.length_drop, List.length_take]; rfl)) ?_; (with_reducible refine (words_Get.calls a0 (wrap64 (1 + (wrap64 (Int.tmod (IntKind.u64.wrap (a1)) 63)))) (wrap64 (64 - (wrap64 (1 + (wrap64 (Int.tmod (IntKind.u64.wrap (a1)) 63)))))) t152 t153 _ A6.out).mono ?_); rintro e w' ⟨rfl, ⟨nd, rfl⟩⟩; refine ⟨_, rfl, ?_⟩) | ((with_reducible refine gate_callee (f := 13) rfl ?_); refine goesL_ (some 40) rfl rfl Try.func13 (by kernel_rfl) rfl #[.int .u64 0, .int .i64 0, .int .i64 (wrap64 (1 + (wrap64 (Int.tmod (IntKind.u64.wrap (a1)) 63)))), .int .u64 t150] rfl (by (try simp only [List.map_toArray, List.map_cons, List.map_nil]); first | done | rfl | (simp only [List.length_drop, List.length_take]; rfl)) ?_; (with_reducible refine (words_Put.calls 0 0 (wrap64 (1 + (wrap64 (Int.tmod (IntKind.u64.wrap (a1)) 63)))) t150 t154 t155 _ A7.out).mono ?_); rintro e w' ⟨rfl, ⟨nd, rfl⟩⟩; refine ⟨_, rfl, ?_⟩) | ((with_reducible refine gate_callee (f := 13) rfl ?_); refine goesL_ (some 49) rfl rfl Try.func13 (by kernel_rfl) rfl #[.int .u64 t154, .int .i64 (wrap64 (1 + (wrap64 (Int.tmod (IntKind.u64.wrap (a1)) 63)))), .int .i64 (wrap64 (64 - (wrap64 (1 + (wrap64 (Int.tmod (IntKind.u64.wrap (a1)) 63)))))), .int .u64 t152] rfl (by (try simp only [List.map_toArray, List.map_cons, List.map_nil]); first | done | rfl | (simp only [List.length_drop, List.length_take]; rfl)) ?_; (with_reducible refine (words_Put.calls t154 (wrap64 (1 + (wrap64 (Int.tmod (IntKind.u64.wrap (a1)) 63)))) (wrap64 (64 - (wrap64 (1 + (wrap64 (Int.tmod (IntKind.u64.wrap (a1)) 63)))))) t152 t156 t157 _ A8.out).mono ?_); rintro e w' ⟨rfl, ⟨nd, rfl⟩⟩; refine ⟨_, rfl, ?_⟩) | ((with_reducible refine gate_callee (f := 11) rfl ?_); refine goesL_ (some 54) rfl rfl Try.func11 (by kernel_rfl) rfl #[.int .u64 a0, .int .i64 0, .int .i64 64] rfl (by (try simp only [List.map_toArray, List.map_cons, List.map_nil]); first | done | rfl | (simp only [List.length_drop, List.length_take]; rfl)) ?_; (with_reducible refine (words_Get.calls a0 0 64 t158 t159 _ A9.out).mono ?_); rintro e w' ⟨rfl, ⟨nd, rfl⟩⟩; refine ⟨_, rfl, ?_⟩))
          go_ret
          exact ⟨by first | rfl | (simp [errW_none, errW_some] <;> rfl) | (simp [*, errW_none, errW_some] <;> rfl), by repeat (first | (with_reducible first | exact HB.out | apply below_alloc | apply pw_below_drewN | apply below_drew1) | exact HB.out)⟩
      · rw [if_neg c11] at H
        have c11b0 : (t153 == 0) = false := beq_eq_false_iff_ne.mpr c11
        have c11b1 : (t153 != 0) = true := bne_iff_ne.mpr c11
        obtain rfl := Option.some.inj H
        go_enter Try.func6, Try.ntmps6
        go_wp2_with (first | ((with_reducible refine gate_callee (f := 9) rfl ?_); refine goesL_ (some 16) rfl rfl Try.func9 (by kernel_rfl) rfl #[] rfl (by (try simp only [List.map_toArray, List.map_cons, List.map_nil]); first | done | rfl | (simp only [List.length_drop, List.length_take]; rfl)) ?_; (with_reducible refine (escritoirelaw01_lives.calls  true _ A3.out).mono ?_); rintro e w31 ⟨rfl, hb⟩; refine ⟨_, rfl, ?_⟩; have n0_ := Aside0.mk (below_step (by repeat (first | (with_reducible first | exact HB.out | apply below_alloc | apply pw_below_drewN | apply below_drew1) | exact HB.out)) hb); clear HB; have HB := n0_; clear n0_; (try clear hb); (try clear hb2); (try clear hk); (try clear hi)) | ((with_reducible refine gate_callee (f := 11) rfl ?_); refine goesL_ (some 26) rfl rfl Try.func11 (by kernel_rfl) rfl #[.int .u64 a0, .int .i64 0, .int .i64 (wrap64 (1 + (wrap64 (Int.tmod (IntKind.u64.wrap (a1)) 63))))] rfl (by (try simp only [List.map_toArray, List.map_cons, List.map_nil]); first | done | rfl | (simp only [List.length_drop, List.length_take]; rfl)) ?_; (with_reducible refine (words_Get.calls a0 0 (wrap64 (1 + (wrap64 (Int.tmod (IntKind.u64.wrap (a1)) 63)))) t150 t151 _ A5.out).mono ?_); rintro e w' ⟨rfl, ⟨nd, rfl⟩⟩; refine ⟨_, rfl, ?_⟩) | ((with_reducible refine gate_callee (f := 11) rfl ?_); refine goesL_ (some 34) rfl rfl Try.func11 (by kernel_rfl) rfl #[.int .u64 a0, .int .i64 (wrap64 (1 + (wrap64 (Int.tmod (IntKind.u64.wrap (a1)) 63)))), .int .i64 (wrap64 (64 - (wrap64 (1 + (wrap64 (Int.tmod (IntKind.u64.wrap (a1)) 63))))))] rfl (by (try simp only [List.map_toArray, List.map_cons, List.map_nil]); first | done | rfl | (simp only [List.length_drop, List.length_take]; rfl)) ?_; (with_reducible refine (words_Get.calls a0 (wrap64 (1 + (wrap64 (Int.tmod (IntKind.u64.wrap (a1)) 63)))) (wrap64 (64 - (wrap64 (1 + (wrap64 (Int.tmod (IntKind.u64.wrap (a1)) 63)))))) t152 t153 _ A6.out).mono ?_); rintro e w' ⟨rfl, ⟨nd, rfl⟩⟩; refine ⟨_, rfl, ?_⟩) | ((with_reducible refine gate_callee (f := 13) rfl ?_); refine goesL_ (some 40) rfl rfl Try.func13 (by kernel_rfl) rfl #[.int .u64 0, .int .i64 0, .int .i64 (wrap64 (1 + (wrap64 (Int.tmod (IntKind.u64.wrap (a1)) 63)))), .int .u64 t150] rfl (by (try simp only [List.map_toArray, List.map_cons, List.map_nil]); first | done | rfl | (simp only [List.length_drop, List.length_take]; rfl)) ?_; (with_reducible refine (words_Put.calls 0 0 (wrap64 (1 + (wrap64 (Int.tmod (IntKind.u64.wrap (a1)) 63)))) t150 t154 t155 _ A7.out).mono ?_); rintro e w' ⟨rfl, ⟨nd, rfl⟩⟩; refine ⟨_, rfl, ?_⟩) | ((with_reducible refine gate_callee (f := 13) rfl ?_); refine goesL_ (some 49) rfl rfl Try.func13 (by kernel_rfl) rfl #[.int .u64 t154, .int .i64 (wrap64 (1 + (wrap64 (Int.tmod (IntKind.u64.wrap (a1)) 63)))), .int .i64 (wrap64 (64 - (wrap64 (1 + (wrap64 (Int.tmod (IntKind.u64.wrap (a1)) 63)))))), .int .u64 t152] rfl (by (try simp only [List.map_toArray, List.map_cons, List.map_nil]); first | done | rfl | (simp only [List.length_drop, List.length_take]; rfl)) ?_; (with_reducible refine (words_Put.calls t154 (wrap64 (1 + (wrap64 (Int.tmod (IntKind.u64.wrap (a1)) 63)))) (wrap64 (64 - (wrap64 (1 + (wrap64 (Int.tmod (IntKind.u64.wrap (a1)) 63)))))) t152 t156 t157 _ A8.out).mono ?_); rintro e w' ⟨rfl, ⟨nd, rfl⟩⟩; refine ⟨_, rfl, ?_⟩) | ((with_reducible refine gate_callee (f := 11) rfl ?_); refine goesL_ (some 54) rfl rfl Try.func11 (by kernel_rfl) rfl #[.int .u64 a0, .int .i64 0, .int .i64 64] rfl (by (try simp only [List.map_toArray, List.map_cons, List.map_nil]); first | done | rfl | (simp only [List.length_drop, List.length_take]; rfl)) ?_; (with_reducible refine (words_Get.calls a0 0 64 t158 t159 _ A9.out).mono ?_); rintro e w' ⟨rfl, ⟨nd, rfl⟩⟩; refine ⟨_, rfl, ?_⟩))
        go_ret
        exact ⟨by first | rfl | (simp [errW_none, errW_some] <;> rfl) | (simp [*, errW_none, errW_some] <;> rfl), by repeat (first | (with_reducible first | exact HB.out | apply below_alloc | apply pw_below_drewN | apply below_drew1) | exact HB.out)⟩
    · rw [if_neg c10] at H
      have c10b0 : (t151 == 0) = false := beq_eq_false_iff_ne.mpr c10
      have c10b1 : (t151 != 0) = true := bne_iff_ne.mpr c10
      obtain rfl := Option.some.inj H
      go_enter Try.func6, Try.ntmps6
      go_wp2_with (first | ((with_reducible refine gate_callee (f := 9) rfl ?_); refine goesL_ (some 16) rfl rfl Try.func9 (by kernel_rfl) rfl #[] rfl (by (try simp only [List.map_toArray, List.map_cons, List.map_nil]); first | done | rfl | (simp only [List.length_drop, List.length_take]; rfl)) ?_; (with_reducible refine (escritoirelaw01_lives.calls  true _ A3.out).mono ?_); rintro e w32 ⟨rfl, hb⟩; refine ⟨_, rfl, ?_⟩; have n0_ := Aside0.mk (below_step (by repeat (first | (with_reducible first | exact HB.out | apply below_alloc | apply pw_below_drewN | apply below_drew1) | exact HB.out)) hb); clear HB; have HB := n0_; clear n0_; (try clear hb); (try clear hb2); (try clear hk); (try clear hi)) | ((with_reducible refine gate_callee (f := 11) rfl ?_); refine goesL_ (some 26) rfl rfl Try.func11 (by kernel_rfl) rfl #[.int .u64 a0, .int .i64 0, .int .i64 (wrap64 (1 + (wrap64 (Int.tmod (IntKind.u64.wrap (a1)) 63))))] rfl (by (try simp only [List.map_toArray, List.map_cons, List.map_nil]); first | done | rfl | (simp only [List.length_drop, List.length_take]; rfl)) ?_; (with_reducible refine (words_Get.calls a0 0 (wrap64 (1 + (wrap64 (Int.tmod (IntKind.u64.wrap (a1)) 63)))) t150 t151 _ A5.out).mono ?_); rintro e w' ⟨rfl, ⟨nd, rfl⟩⟩; refine ⟨_, rfl, ?_⟩) | ((with_reducible refine gate_callee (f := 11) rfl ?_); refine goesL_ (some 34) rfl rfl Try.func11 (by kernel_rfl) rfl #[.int .u64 a0, .int .i64 (wrap64 (1 + (wrap64 (Int.tmod (IntKind.u64.wrap (a1)) 63)))), .int .i64 (wrap64 (64 - (wrap64 (1 + (wrap64 (Int.tmod (IntKind.u64.wrap (a1)) 63))))))] rfl (by (try simp only [List.map_toArray, List.map_cons, List.map_nil]); first | done | rfl | (simp only [List.length_drop, List.length_take]; rfl)) ?_; (with_reducible refine (words_Get.calls a0 (wrap64 (1 + (wrap64 (Int.tmod (IntKind.u64.wrap (a1)) 63)))) (wrap64 (64 - (wrap64 (1 + (wrap64 (Int.tmod (IntKind.u64.wrap (a1)) 63)))))) t152 t153 _ A6.out).mono ?_); rintro e w' ⟨rfl, ⟨nd, rfl⟩⟩; refine ⟨_, rfl, ?_⟩) | ((with_reducible refine gate_callee (f := 13) rfl ?_); refine goesL_ (some 40) rfl rfl Try.func13 (by kernel_rfl) rfl #[.int .u64 0, .int .i64 0, .int .i64 (wrap64 (1 + (wrap64 (Int.tmod (IntKind.u64.wrap (a1)) 63)))), .int .u64 t150] rfl (by (try simp only [List.map_toArray, List.map_cons, List.map_nil]); first | done | rfl | (simp only [List.length_drop, List.length_take]; rfl)) ?_; (with_reducible refine (words_Put.calls 0 0 (wrap64 (1 + (wrap64 (Int.tmod (IntKind.u64.wrap (a1)) 63)))) t150 t154 t155 _ A7.out).mono ?_); rintro e w' ⟨rfl, ⟨nd, rfl⟩⟩; refine ⟨_, rfl, ?_⟩) | ((with_reducible refine gate_callee (f := 13) rfl ?_); refine goesL_ (some 49) rfl rfl Try.func13 (by kernel_rfl) rfl #[.int .u64 t154, .int .i64 (wrap64 (1 + (wrap64 (Int.tmod (IntKind.u64.wrap (a1)) 63)))), .int .i64 (wrap64 (64 - (wrap64 (1 + (wrap64 (Int.tmod (IntKind.u64.wrap (a1)) 63)))))), .int .u64 t152] rfl (by (try simp only [List.map_toArray, List.map_cons, List.map_nil]); first | done | rfl | (simp only [List.length_drop, List.length_take]; rfl)) ?_; (with_reducible refine (words_Put.calls t154 (wrap64 (1 + (wrap64 (Int.tmod (IntKind.u64.wrap (a1)) 63)))) (wrap64 (64 - (wrap64 (1 + (wrap64 (Int.tmod (IntKind.u64.wrap (a1)) 63)))))) t152 t156 t157 _ A8.out).mono ?_); rintro e w' ⟨rfl, ⟨nd, rfl⟩⟩; refine ⟨_, rfl, ?_⟩) | ((with_reducible refine gate_callee (f := 11) rfl ?_); refine goesL_ (some 54) rfl rfl Try.func11 (by kernel_rfl) rfl #[.int .u64 a0, .int .i64 0, .int .i64 64] rfl (by (try simp only [List.map_toArray, List.map_cons, List.map_nil]); first | done | rfl | (simp only [List.length_drop, List.length_take]; rfl)) ?_; (with_reducible refine (words_Get.calls a0 0 64 t158 t159 _ A9.out).mono ?_); rintro e w' ⟨rfl, ⟨nd, rfl⟩⟩; refine ⟨_, rfl, ?_⟩))
      go_ret
      exact ⟨by first | rfl | (simp [errW_none, errW_some] <;> rfl) | (simp [*, errW_none, errW_some] <;> rfl), by repeat (first | (with_reducible first | exact HB.out | apply below_alloc | apply pw_below_drewN | apply below_drew1) | exact HB.out)⟩
  · replace c4 := Bool.eq_false_iff.mpr c4
    subst c4
    have H1 : (some false) = some r := by rw [if_neg (show ¬ (false = true) by decide)] at H; exact H
    clear H
    have H := H1
    clear H1
    obtain rfl := Option.some.inj H
    go_enter Try.func6, Try.ntmps6
    go_wp2_with (first | ((with_reducible refine gate_callee (f := 9) rfl ?_); refine goesL_ (some 16) rfl rfl Try.func9 (by kernel_rfl) rfl #[] rfl (by (try simp only [List.map_toArray, List.map_cons, List.map_nil]); first | done | rfl | (simp only [List.length_drop, List.length_take]; rfl)) ?_; (with_reducible refine (escritoirelaw01_lives.calls  false _ A3.out).mono ?_); rintro e w33 ⟨rfl, hb⟩; refine ⟨_, rfl, ?_⟩; have n0_ := Aside0.mk (below_step (by repeat (first | (with_reducible first | exact HB.out | apply below_alloc | apply pw_below_drewN | apply below_drew1) | exact HB.out)) hb); clear HB; have HB := n0_; clear n0_; (try clear hb); (try clear hb2); (try clear hk); (try clear hi)))
    go_ret
    exact ⟨by first | rfl | (simp [errW_none, errW_some] <;> rfl) | (simp [*, errW_none, errW_some] <;> rfl), by repeat (first | (with_reducible first | exact HB.out | apply below_alloc | apply pw_below_drewN | apply below_drew1) | exact HB.out)⟩

end Go.Proofs.Ytkjmhijgjllnbaa.Print
