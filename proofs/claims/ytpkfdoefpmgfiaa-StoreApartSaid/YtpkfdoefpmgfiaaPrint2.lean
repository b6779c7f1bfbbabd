import Derived.Test.YtpkfdoefpmgfiaaPrint0
namespace Go.Proofs.Ytpkfdoefpmgfiaa.Print
open Go.RowKit Go.Proofs.YtpkfdoefpmgfiaaW.PrintWords Go.Proofs.YtpkfdoefpmgfiaaW.PrintLast Go.Proofs.YtpkfdoefpmgfiaaW.PrintMore
attribute [local go_sem] max2_int min2_int max_two min_two max_three min_three max_four min_four   -- for this text's walks alone
set_option linter.unusedVariables false
set_option linter.unusedSimpArgs false

/-! ### plan_part_end: function 43 -/
def plan_part_end.f (a0_0 : Int) (a0_1 : Int) (a0_2 : Int) (a0_3 : Int) : Option (Int) := some (wrap64 (a0_1 + (wrap64 (a0_2 * a0_3))))
set_option maxHeartbeats 8000000 in
set_option maxRecDepth 100000 in
theorem plan_part_end.calls (a0_0 : Int) (a0_1 : Int) (a0_2 : Int) (a0_3 : Int) (r : Int) (w : World) (h : plan_part_end.f a0_0 a0_1 a0_2 a0_3 = some r) :
    Calls Try.prog 43 #[.agg #[.int .i64 a0_0, .int .i64 a0_1, .int .i64 a0_2, .int .i64 a0_3]] w fun e w' => e = .returned (.int .i64 r) ∧ Below w.heap.size w w' := by
  have hu80 := Try.underlying80
  have HB := Aside0.mk (Below.refl w.heap.size w)
  have H : (some (wrap64 (a0_1 + (wrap64 (a0_2 * a0_3))))) = some r := h
  clear h
  obtain rfl := Option.some.inj H
  go_enter Try.func43, Try.ntmps43
  go_wp2_with (first | ((with_reducible refine gate_dst (N := 1) rfl ?_); refine box_event ?hg (N := 1) ?hd (cs := #[.int .i64 a0_0, .int .i64 a0_1, .int .i64 a0_2, .int .i64 a0_3]) (t := 80) ?hr ?_; (case hd => rfl); (case hg => rfl); (case hr => first | (go_simp; done) | (go_simp; rfl)); intro gb101 hg w2 hbox hb; have n0_ := Aside0.mk (below_step (by repeat (first | (with_reducible first | exact HB.out | apply below_alloc | apply pw_below_drewN | apply below_drew1) | exact HB.out)) hb); have n1_ := Aside0.mk (hbox); have n2_ := Aside0.mk ((by rw [hg]; exact (below_size (by repeat (first | (with_reducible first | exact HB.out | apply below_alloc | apply pw_below_drewN | apply below_drew1) | exact HB.out))) : w.heap.size ≤ gb101)); have n3_ := Aside0.mk ((by rw [hg]; exact (below_size (by repeat (first | (with_reducible first | exact HB.out | apply below_alloc | apply pw_below_drewN | apply below_drew1) | exact HB.out))) : w.heap.size ≤ gb101)); clear HB; have HB := n0_; have BK101 := n1_; have GW101 := n2_; have GE101 := n3_; clear n0_ n1_ n2_ n3_; clear hb hbox hg; have hcz3_0 : w2.cell? ⟨gb101, 0, none⟩ = some (.int .i64 a0_0) := (blk_cell BK101.out 0).trans rfl; have hcz3_1 : w2.cell? ⟨gb101, 1, none⟩ = some (.int .i64 a0_1) := (blk_cell BK101.out 1).trans rfl; have hcz3_2 : w2.cell? ⟨gb101, 2, none⟩ = some (.int .i64 a0_2) := (blk_cell BK101.out 2).trans rfl; have hcz3_3 : w2.cell? ⟨gb101, 3, none⟩ = some (.int .i64 a0_3) := (blk_cell BK101.out 3).trans rfl; have hfz3_0 := blk_frozen BK101.out 0; have hfz3_1 := blk_frozen BK101.out 1; have hfz3_2 := blk_frozen BK101.out 2; have hfz3_3 := blk_frozen BK101.out 3))
  go_ret
  exact ⟨by first | rfl | (simp [errW_none, errW_some] <;> rfl) | (simp [*, errW_none, errW_some] <;> rfl), by repeat (first | (with_reducible first | exact HB.out | apply below_alloc | apply pw_below_drewN | apply below_drew1 | refine below_set ?_ GE101.out) | exact HB.out)⟩

/-! ### plan_parts: function 52 -/
def plan_parts.l0 : Nat → List (S80) → Int → Option ((List (S80)))
  | 0, _, _ => none
  | k + 1, x1, x2 => if x2 < (x1.length : Int) then (if 0 ≤ (wrap64 (x2 - 1)) then (if (wrap64 (x2 - 1)) < (x1.length : Int) then ((plan_part_end.f ((rd_T80 x1 (wrap64 (x2 - 1))).f0) ((rd_T80 x1 (wrap64 (x2 - 1))).f1) ((rd_T80 x1 (wrap64 (x2 - 1))).f2) ((rd_T80 x1 (wrap64 (x2 - 1))).f3)).bind fun t106 => (if 0 ≤ x2 then (plan_parts.l0 k (x1.set (x2 : Int).toNat (⟨(rd_T80 x1 x2).f0, t106, (rd_T80 x1 x2).f2, (rd_T80 x1 x2).f3⟩ : S80)) (wrap64 (x2 + 1))) else (none))) else (none)) else (none)) else (some x1)
def plan_parts.f (k : Nat)  : Option ((List (S80))) := plan_parts.l0 k (([(⟨1, 0, 1, 8⟩ : S80), (⟨2, 0, 24, 8⟩ : S80), (⟨3, 0, 96, 1⟩ : S80), (⟨4, 0, 4, 248⟩ : S80), (⟨5, 0, 96, 16⟩ : S80)] : List (S80))) 1
set_option maxHeartbeats 8000000 in
set_option maxRecDepth 100000 in
theorem plan_parts.calls (k : Nat)  (r : List (S80)) (w : World) (h : plan_parts.f k  = some r) :
    Calls Try.prog 52 #[] w fun e w' => ∃ v0_ : Value, e = .returned (v0_) ∧ Kd.R k80 80 w' w.heap.size (fun _ => True) v0_ r ∧ Below w.heap.size w w' := by
  have hu80 := Try.underlying80
  have HB := Aside0.mk (Below.refl w.heap.size w)
  have H : (plan_parts.l0 k (([(⟨1, 0, 1, 8⟩ : S80), (⟨2, 0, 24, 8⟩ : S80), (⟨3, 0, 96, 1⟩ : S80), (⟨4, 0, 4, 248⟩ : S80), (⟨5, 0, 96, 16⟩ : S80)] : List (S80))) 1) = some r := h
  clear h
  obtain ⟨y102, hy102⟩ : ∃ y_ : List (S80), y_ = (([(⟨1, 0, 1, 8⟩ : S80), (⟨2, 0, 24, 8⟩ : S80), (⟨3, 0, 96, 1⟩ : S80), (⟨4, 0, 4, 248⟩ : S80), (⟨5, 0, 96, 16⟩ : S80)] : List (S80))) := ⟨_, rfl⟩
  replace H : (plan_parts.l0 k y102 1) = some r := by first | (rw [hy102]; with_reducible exact H) | (have H2_ := (Option.bind_some _ _).symm.trans H; rw [hy102]; with_reducible exact H2_) | (have H2_ := (Option.bind_some _ _).symm.trans H; with_reducible exact H2_) | with_reducible exact H | (rw [hy102]; exact H) | exact H
  have Ny102 := Aside0.mk hy102
  clear hy102
  have H' := Aside0.mk H
  clear H
  go_enter Try.func52, Try.ntmps52
  go_wp2_with (first | ((with_reducible refine gate_dst (N := 8) rfl ?_); refine Kd.R_lit k80 _ 80 ?hg (N := 8) ?hd (xs := ([(⟨1, 0, 1, 8⟩ : S80), (⟨2, 0, 24, 8⟩ : S80), (⟨3, 0, 96, 1⟩ : S80), (⟨4, 0, 4, 248⟩ : S80), (⟨5, 0, 96, 16⟩ : S80)] : List (S80))) (inner := [.int .i64 1, .int .i64 0, .int .i64 1, .int .i64 8, .int .i64 2, .int .i64 0, .int .i64 24, .int .i64 8, .int .i64 3, .int .i64 0, .int .i64 96, .int .i64 1, .int .i64 4, .int .i64 0, .int .i64 4, .int .i64 248, .int .i64 5, .int .i64 0, .int .i64 96, .int .i64 16]) (ok := fun _ => True) (okp := fun _ => True) ?hr ?hp (fun _ hk => hk) trivial (Below.refl _ _) (Nat.le_refl _) (by simp) ?_; (case hd => rfl); (case hg => rfl); (case hr => first | (go_simp; done) | (go_simp; rfl)); (case hp => exact (Reps.c4 (show Kd.M k80 _ _ _ (⟨1, 0, 1, 8⟩ : S80) [.int .i64 1, .int .i64 0, .int .i64 1, .int .i64 8] from (k80_mkM _ _ _ (⟨1, 0, 1, 8⟩ : S80) )) (Reps.c4 (show Kd.M k80 _ _ _ (⟨2, 0, 24, 8⟩ : S80) [.int .i64 2, .int .i64 0, .int .i64 24, .int .i64 8] from (k80_mkM _ _ _ (⟨2, 0, 24, 8⟩ : S80) )) (Reps.c4 (show Kd.M k80 _ _ _ (⟨3, 0, 96, 1⟩ : S80) [.int .i64 3, .int .i64 0, .int .i64 96, .int .i64 1] from (k80_mkM _ _ _ (⟨3, 0, 96, 1⟩ : S80) )) (Reps.c4 (show Kd.M k80 _ _ _ (⟨4, 0, 4, 248⟩ : S80) [.int .i64 4, .int .i64 0, .int .i64 4, .int .i64 248] from (k80_mkM _ _ _ (⟨4, 0, 4, 248⟩ : S80) )) (Reps.c4 (show Kd.M k80 _ _ _ (⟨5, 0, 96, 16⟩ : S80) [.int .i64 5, .int .i64 0, .int .i64 96, .int .i64 16] from (k80_mkM _ _ _ (⟨5, 0, 96, 16⟩ : S80) )) (Reps.none _ _))))))); intro v103 w1 ho2 hb hg_ hnew_; clear hg_ hnew_; (first | rw [← Ny102.out] at ho2 | (simp only [Int.reduceToNat] at ho2; rw [← Ny102.out] at ho2)); have n0_ := Aside0.mk (Kd.R_lower ho2 (below_size (by repeat (first | (with_reducible first | exact HB.out | apply below_alloc | apply pw_below_drewN | apply below_drew1) | exact HB.out)))); have n1_ := Aside0.mk (below_step (by repeat (first | (with_reducible first | exact HB.out | apply below_alloc | apply pw_below_drewN | apply below_drew1) | exact HB.out)) hb); clear HB; have HO104 := n0_; have HB := n1_; clear n0_ n1_; clear hb ho2))
  go_loopg [2] k (fun kq v2 w' => ∃ (x1_1 : List (S80)) (x2_1 : Int), v2 = .int .i64 x2_1 ∧ Aside0 (plan_parts.l0 kq x1_1 x2_1 = some r) ∧ Aside0 (kq ≤ k) ∧ Aside0 (Kd.R k80 80 w' w.heap.size (fun _ => True) v103 x1_1) ∧ Aside0 (Below w.heap.size w w'))
  case atStart => exact ⟨(y102), (1), (by first | rfl | (simp; done) | (simp [*]; done) | kernel_rfl), H', ⟨Nat.le_refl _⟩, ⟨by (with_reducible repeat (first | apply Kd.R_alloc | apply Kd.R_drewN | apply Kd.R_drew)); exact HO104.out⟩, ⟨by repeat (first | (with_reducible first | exact HB.out | apply below_alloc | apply pw_below_drewN | apply below_drew1) | exact HB.out)⟩⟩
  case round =>
    clear H'
    try clear p2
    obtain ⟨x1_1, x2_1, rfl, HA, HK1, HO_1, HB⟩ := hrel
    cases gk with
    | zero => exact absurd HA.out (by simp [plan_parts.l0])
    | succ k1 =>
      have H := HA.out
      clear HA
      simp only [plan_parts.l0] at H
      by_cases c3 : x2_1 < (x1_1.length : Int)
      · rw [if_pos c3] at H
        have c3b0 : decide (x2_1 < (x1_1.length : Int)) = true := decide_eq_true c3
        clear c3
        obtain ⟨ji4, hji4⟩ : ∃ j_ : Int, (wrap64 (x2_1 - 1)) = j_ := ⟨_, rfl⟩
        replace H : (if 0 ≤ (ji4) then (if (ji4) < (x1_1.length : Int) then ((plan_part_end.f ((rd_T80 x1_1 (ji4)).f0) ((rd_T80 x1_1 (ji4)).f1) ((rd_T80 x1_1 (ji4)).f2) ((rd_T80 x1_1 (ji4)).f3)).bind fun t106 => (if 0 ≤ x2_1 then (plan_parts.l0 k1 (x1_1.set (x2_1 : Int).toNat (⟨(rd_T80 x1_1 x2_1).f0, t106, (rd_T80 x1_1 x2_1).f2, (rd_T80 x1_1 x2_1).f3⟩ : S80)) (wrap64 (x2_1 + 1))) else (none))) else (none)) else (none)) = some r := by first | (rw [hji4] at H; exact H) | (simp only [hji4] at H ⊢; exact H)
        have hji4w : (IntKind.i64.wrap (x2_1 - 1)) = ji4 := (i64_w _).trans hji4
        by_cases c5 : 0 ≤ (ji4)
        · rw [if_pos c5] at H
          have c5b0 : decide (0 ≤ (ji4)) = true := decide_eq_true c5
          clear c5
          by_cases c6 : (ji4) < (x1_1.length : Int)
          · rw [if_pos c6] at H
            have c6b0 : decide ((ji4) < (x1_1.length : Int)) = true := decide_eq_true c6
            clear c6
            replace H := Option.bind_eq_some_iff.mp H
            obtain ⟨t106, A70, H⟩ := H
            replace H : (if 0 ≤ x2_1 then (plan_parts.l0 k1 (x1_1.set (x2_1 : Int).toNat (⟨(rd_T80 x1_1 x2_1).f0, t106, (rd_T80 x1_1 x2_1).f2, (rd_T80 x1_1 x2_1).f3⟩ : S80)) (wrap64 (x2_1 + 1))) else (none)) = some r := H
            have A7 := Aside0.mk A70
            clear A70
            by_cases c8 : 0 ≤ x2_1
            · rw [if_pos c8] at H
              have c8b0 : decide (0 ≤ x2_1) = true := decide_eq_true c8
              clear c8
              obtain ⟨y107, hy107⟩ : ∃ y_ : List (S80), y_ = (x1_1.set (x2_1 : Int).toNat (⟨(rd_T80 x1_1 x2_1).f0, t106, (rd_T80 x1_1 x2_1).f2, (rd_T80 x1_1 x2_1).f3⟩ : S80)) := ⟨_, rfl⟩
              replace H : (plan_parts.l0 k1 y107 (wrap64 (x2_1 + 1))) = some r := by first | (rw [hy107]; with_reducible exact H) | (have H2_ := (Option.bind_some _ _).symm.trans H; rw [hy107]; with_reducible exact H2_) | (have H2_ := (Option.bind_some _ _).symm.trans H; with_reducible exact H2_) | with_reducible exact H | (rw [hy107]; exact H) | exact H
              have Ny107 := Aside0.mk hy107
              clear hy107
              have H' := Aside0.mk H
              clear H
              obtain ⟨Ao10, co10, eo10⟩ := Kd.R_slice HO_1.out
              subst eo10
              have p105 : 0 ≤ ((ji4) : Int) := of_decide_eq_true (by first | (with_reducible assumption) | assumption)
              have q105 : (ji4) < (x1_1.length : Int) := of_decide_eq_true (by first | (with_reducible assumption) | assumption)
              obtain ⟨ad105, e105, hx105_0, hx105_1, hx105_2, hx105_3⟩ := at_T80 (Kd.R_reads' HO_1.out).2.2 (ji4) p105 q105
              cases e105
              replace p105 := eq_true p105
              replace q105 := eq_true q105
              go_wp2_with (first | ((with_reducible refine gate_callee (f := 43) rfl ?_); refine goesL_ (some 22) rfl rfl Try.func43 (by kernel_rfl) rfl #[.agg #[.int .i64 ((rd_T80 x1_1 (ji4)).f0), .int .i64 ((rd_T80 x1_1 (ji4)).f1), .int .i64 ((rd_T80 x1_1 (ji4)).f2), .int .i64 ((rd_T80 x1_1 (ji4)).f3)]] rfl (by (try simp only [List.map_toArray, List.map_cons, List.map_nil]); first | done | (simp only [hji4]; rfl) | rfl | (simp only [List.length_drop, List.length_take]; rfl)) ?_; (with_reducible refine (plan_part_end.calls ((rd_T80 x1_1 (ji4)).f0) ((rd_T80 x1_1 (ji4)).f1) ((rd_T80 x1_1 (ji4)).f2) ((rd_T80 x1_1 (ji4)).f3) t106 _ A7.out).mono ?_); rintro e w11 ⟨rfl, hb⟩; refine ⟨_, rfl, ?_⟩; have n0_ := Aside0.mk (Kd.R_below (by (with_reducible repeat (first | apply Kd.R_alloc | apply Kd.R_drewN | apply Kd.R_drew)); exact HO_1.out) hb); have n1_ := Aside0.mk (below_step (by repeat (first | (with_reducible first | exact HB.out | apply below_alloc | apply pw_below_drewN | apply below_drew1) | exact HB.out)) hb); clear HO_1; clear HB; have HO_1 := n0_; have HB := n1_; clear n0_ n1_; (try clear hb); (try clear hb2); (try clear hk); (try clear hi); have p9 : 0 ≤ (x2_1 : Int) := of_decide_eq_true (by first | (with_reducible assumption) | assumption); have q9 : (x2_1 : Int) < ((x1_1.length : Int) : Int) := of_decide_eq_true (by first | (with_reducible assumption) | assumption); obtain ⟨go9, co9, eo9, gb9, gl9, cl9, HG9⟩ := Kd.R_form HO_1.out (by omega); (first | cases eo9 | (injection eo9 with ea_ en_ ec_; (first | subst ea_ | (injection ea_ with ea_; subst ea_)); subst ec_; clear en_)); have GB9 := Aside0.mk gb9; have GG9 := Aside0.mk HG9; clear gb9 gl9 HG9; (first | simp only [add_plain] at hx105_0 | skip); (first | simp only [add_plain] at hx105_1 | skip); (first | simp only [add_plain] at hx105_2 | skip); (first | simp only [add_plain] at hx105_3 | skip); obtain ⟨ce9, hcl9, hM9, hcc9, hfr9⟩ := Kd.R_elem HO_1.out z80 (x2_1 : Int) p9 q9; obtain rfl := k80_openM hM9; have hx9_0 : w11.cell? ⟨go9, (x2_1 : Int).toNat * 4, none⟩ = some (.int .i64 ((rd_T80 x1_1 x2_1).f0)) := hcc9 0 _ rfl; have hx9_1 : w11.cell? ⟨go9, (x2_1 : Int).toNat * 4 + 1, none⟩ = some (.int .i64 ((rd_T80 x1_1 x2_1).f1)) := hcc9 1 _ rfl; have hx9_2 : w11.cell? ⟨go9, (x2_1 : Int).toNat * 4 + 2, none⟩ = some (.int .i64 ((rd_T80 x1_1 x2_1).f2)) := hcc9 2 _ rfl; have hx9_3 : w11.cell? ⟨go9, (x2_1 : Int).toNat * 4 + 3, none⟩ = some (.int .i64 ((rd_T80 x1_1 x2_1).f3)) := hcc9 3 _ rfl; have hf9_0 : w11.frozen? ⟨go9, (x2_1 : Int).toNat * 4, none⟩ = false := hfr9 0; have hf9_1 : w11.frozen? ⟨go9, (x2_1 : Int).toNat * 4 + 1, none⟩ = false := hfr9 1; have hf9_2 : w11.frozen? ⟨go9, (x2_1 : Int).toNat * 4 + 2, none⟩ = false := hfr9 2; have hf9_3 : w11.frozen? ⟨go9, (x2_1 : Int).toNat * 4 + 3, none⟩ = false := hfr9 3; clear hcl9 hcc9 hfr9 hM9; replace p9 := eq_true p9; replace q9 := eq_true q9; have HX12 := Aside0.mk (show Kd.R k80 80 w11 w.heap.size (fun _ => True) (.slice (some ⟨go9, 0, none⟩) x1_1.length co10) x1_1 from (by (with_reducible repeat (first | apply Kd.R_alloc | apply Kd.R_drewN | apply Kd.R_drew)); exact HO_1.out)); obtain ⟨ce12, hcl12, hM12, hcc12, hfr12⟩ := Kd.R_elem HX12.out z80 (x2_1 : Int) (of_decide_eq_true (by first | (with_reducible assumption) | assumption)) (by have h_ : (x2_1 : Int) < ((x1_1.length : Int) : Int) := of_decide_eq_true (by first | (with_reducible assumption) | assumption); first | exact h_ | (have e_ := (Kd.R_reads' HO_1.out).1; omega) | simpa using h_); obtain rfl := k80_openM hM12; have HP12 := Kd.R_seg HX12.out (x2_1 : Int) (of_decide_eq_true (by first | (with_reducible assumption) | assumption)) (by have h_ : (x2_1 : Int) < ((x1_1.length : Int) : Int) := of_decide_eq_true (by first | (with_reducible assumption) | assumption); first | exact h_ | (have e_ := (Kd.R_reads' HO_1.out).1; omega) | simpa using h_) (seg := [.int .i64 t106]) (j := 1) hcl12 hcc12 (show 2 ≤ 4 from by decide) (x' := (⟨(rd_T80 x1_1 x2_1).f0, t106, (rd_T80 x1_1 x2_1).f2, (rd_T80 x1_1 x2_1).f3⟩ : S80)) (k80_mkM _ _ _ (⟨(rd_T80 x1_1 x2_1).f0, t106, (rd_T80 x1_1 x2_1).f2, (rd_T80 x1_1 x2_1).f3⟩ : S80) ) (fun _ hk => hk); have hx12_1 := hcc12 1 _ rfl; (try simp only [show (k80).sz = 4 from rfl, Nat.mul_one, Nat.add_zero] at hx12_1); have hf12_1 := hfr12 1; (try simp only [show (k80).sz = 4 from rfl, Nat.mul_one, Nat.add_zero] at hf12_1); clear hcl12 hcc12 hfr12 hM12) | ((with_reducible refine gate_store (t := 3) (p := 24) rfl ?_); refine store_event (t := 3) (p := 24) (v := ?vo_w13) (w1 := (w11.setCell ⟨go9, (x2_1 : Int).toNat * 4 + 1, none⟩ (.int .i64 t106))) ?hg ?ho ?hn ?hr ?_; (case ho => rfl); (case hg => rfl); (case hn => rfl); (case hr => first | (go_simp; done) | (go_simp; rfl)); intro w13 hw; have hg : w11.grownBy w13 (some go9) := (by rw [hw]; exact HP12.2); have hp_ : Kd.R k80 80 w13 w.heap.size (fun _ => True) (.slice (some ⟨go9, 0, none⟩) x1_1.length co10) y107 := (by rw [hw, Ny107.out]; exact HP12.1); clear HP12; have n0_ := Aside0.mk (hp_); have n1_ := Aside0.mk ((by rw [hw]; exact below_set (HB.out) GB9.out : Below w.heap.size w w13)); clear HO_1; clear HB; have HO_1 := n0_; have HB := n1_; clear n0_ n1_; clear hg hw hp_))
              go_roundg k1
              case measure => have := HK1.out; omega
              case rel => exact ⟨(y107), (wrap64 (x2_1 + 1)), (by first | rfl | (simp; done) | (simp [*]; done) | kernel_rfl), H', ⟨by have := HK1.out; omega⟩, ⟨by (with_reducible repeat (first | apply Kd.R_alloc | apply Kd.R_drewN | apply Kd.R_drew)); exact HO_1.out⟩, ⟨by repeat (first | (with_reducible first | exact HB.out | apply below_alloc | apply pw_below_drewN | apply below_drew1) | exact HB.out)⟩⟩
            · rw [if_neg c8] at H
              exact absurd H (by simp)
          · rw [if_neg c6] at H
            exact absurd H (by simp)
        · rw [if_neg c5] at H
          exact absurd H (by simp)
      · rw [if_neg c3] at H
        have c3b0 : decide (x2_1 < (x1_1.length : Int)) = false := decide_eq_false c3
        clear c3
        obtain rfl := Option.some.inj H
        obtain ⟨Ao14, co14, eo14⟩ := Kd.R_slice HO_1.out
        subst eo14
        go_wp2
        go_ret
        exact ⟨_, by first | rfl | (simp [errW_none, errW_some] <;> rfl) | (simp [*, errW_none, errW_some] <;> rfl), by (with_reducible repeat (first | apply Kd.R_alloc | apply Kd.R_drewN | apply Kd.R_drew)); exact HO_1.out, by repeat (first | (with_reducible first | exact HB.out | apply below_alloc | apply pw_below_drewN | apply below_drew1) | exact HB.out)⟩

/-! ### plan_of: function 42 -/
def plan_of.f (k : Nat) (a0 : Int) : Option (Int × Int × Int × Int) := (plan_parts.f k).bind fun t109 => (if 0 ≤ (wrap64 (a0 - 1)) then (if (wrap64 (a0 - 1)) < (t109.length : Int) then (some ((rd_T80 t109 (wrap64 (a0 - 1))).f0, (rd_T80 t109 (wrap64 (a0 - 1))).f1, (rd_T80 t109 (wrap64 (a0 - 1))).f2, (rd_T80 t109 (wrap64 (a0 - 1))).f3)) else (none)) else (none))
set_option maxHeartbeats 8000000 in
set_option maxRecDepth 100000 in
theorem plan_of.calls (k : Nat) (a0 : Int) (r1 : Int) (r2 : Int) (r3 : Int) (r4 : Int) (w : World) (h : plan_of.f k a0 = some (r1, r2, r3, r4)) :
    Calls Try.prog 42 #[.int .i64 a0] w fun e w' => e = .returned (.agg #[.int .i64 r1, .int .i64 r2, .int .i64 r3, .int .i64 r4]) ∧ Below w.heap.size w w' := by
  have hu80 := Try.underlying80
  have HB := Aside0.mk (Below.refl w.heap.size w)
  have H : ((plan_parts.f k).bind fun t109 => (if 0 ≤ (wrap64 (a0 - 1)) then (if (wrap64 (a0 - 1)) < (t109.length : Int) then (some ((rd_T80 t109 (wrap64 (a0 - 1))).f0, (rd_T80 t109 (wrap64 (a0 - 1))).f1, (rd_T80 t109 (wrap64 (a0 - 1))).f2, (rd_T80 t109 (wrap64 (a0 - 1))).f3)) else (none)) else (none))) = some (r1, r2, r3, r4) := h
  clear h
  replace H := Option.bind_eq_some_iff.mp H
  obtain ⟨t109, A20, H⟩ := H
  replace H : (if 0 ≤ (wrap64 (a0 - 1)) then (if (wrap64 (a0 - 1)) < (t109.length : Int) then (some ((rd_T80 t109 (wrap64 (a0 - 1))).f0, (rd_T80 t109 (wrap64 (a0 - 1))).f1, (rd_T80 t109 (wrap64 (a0 - 1))).f2, (rd_T80 t109 (wrap64 (a0 - 1))).f3)) else (none)) else (none)) = some (r1, r2, r3, r4) := H
  have A2 := Aside0.mk A20
  clear A20
  obtain ⟨ji3, hji3⟩ : ∃ j_ : Int, (wrap64 (a0 - 1)) = j_ := ⟨_, rfl⟩
  replace H : (if 0 ≤ (ji3) then (if (ji3) < (t109.length : Int) then (some ((rd_T80 t109 (ji3)).f0, (rd_T80 t109 (ji3)).f1, (rd_T80 t109 (ji3)).f2, (rd_T80 t109 (ji3)).f3)) else (none)) else (none)) = some (r1, r2, r3, r4) := by first | (rw [hji3] at H; exact H) | (simp only [hji3] at H ⊢; exact H)
  (try rw [hji3] at A2)
  have hji3w : (IntKind.i64.wrap (a0 - 1)) = ji3 := (i64_w _).trans hji3
  by_cases c4 : 0 ≤ (ji3)
  · rw [if_pos c4] at H
    have c4b0 : decide (0 ≤ (ji3)) = true := decide_eq_true c4
    clear c4
    by_cases c5 : (ji3) < (t109.length : Int)
    · rw [if_pos c5] at H
      have c5b0 : decide ((ji3) < (t109.length : Int)) = true := decide_eq_true c5
      clear c5
      simp only [Option.some.injEq, Prod.mk.injEq] at H
      obtain ⟨rfl, rfl, rfl, rfl⟩ := H
      go_enter Try.func42, Try.ntmps42
      go_wp2_with (first | ((with_reducible refine gate_dst (N := 2) rfl ?_); refine box_event ?hg (N := 2) ?hd (cs := #[.int .i64 0, .int .i64 0, .int .i64 0, .int .i64 0]) (t := 80) ?hr ?_; (case hd => rfl); (case hg => rfl); (case hr => first | (go_simp; done) | (go_simp; rfl)); intro gb108 hg w6 hbox hb; have n0_ := Aside0.mk (below_step (by repeat (first | (with_reducible first | exact HB.out | apply below_alloc | apply pw_below_drewN | apply below_drew1) | exact HB.out)) hb); have n1_ := Aside0.mk (hbox); have n2_ := Aside0.mk ((by rw [hg]; exact (below_size (by repeat (first | (with_reducible first | exact HB.out | apply below_alloc | apply pw_below_drewN | apply below_drew1) | exact HB.out))) : w.heap.size ≤ gb108)); have n3_ := Aside0.mk ((by rw [hg]; exact (below_size (by repeat (first | (with_reducible first | exact HB.out | apply below_alloc | apply pw_below_drewN | apply below_drew1) | exact HB.out))) : w.heap.size ≤ gb108)); clear HB; have HB := n0_; have BK108 := n1_; have GW108 := n2_; have GE108 := n3_; clear n0_ n1_ n2_ n3_; clear hb hbox hg) | ((with_reducible refine gate_callee (f := 52) rfl ?_); refine goesL_ (some 3) rfl rfl Try.func52 (by kernel_rfl) rfl #[] rfl (by (try simp only [List.map_toArray, List.map_cons, List.map_nil]); first | done | rfl | (simp only [List.length_drop, List.length_take]; rfl)) ?_; (with_reducible refine (plan_parts.calls k  t109 _ A2.out).mono ?_); rintro e w7 ⟨v110, rfl, ho0, hb⟩; refine ⟨_, rfl, ?_⟩; have n0_ := Aside0.mk (Kd.R_lower (Kd.R_newB ho0 (g := gb108) (o := .cells #[.int .i64 0, .int .i64 0, .int .i64 0, .int .i64 0] 80 (0, 0)) (by (with_reducible repeat (first | refine blk_drewN ?_ _ | refine blk_drew ?_ | refine blk_alloc ?_ _)); exact BK108.out)) (below_size (by repeat (first | (with_reducible first | exact HB.out | apply below_alloc | apply pw_below_drewN | apply below_drew1 | refine below_set ?_ GE108.out) | exact HB.out)))); have n1_ := Aside0.mk (blk_below (g := gb108) (o := .cells #[.int .i64 0, .int .i64 0, .int .i64 0, .int .i64 0] 80 (0, 0)) (by (with_reducible repeat (first | refine blk_drewN ?_ _ | refine blk_drew ?_ | refine blk_alloc ?_ _)); exact BK108.out) hb); have n2_ := Aside0.mk (below_step (by repeat (first | (with_reducible first | exact HB.out | apply below_alloc | apply pw_below_drewN | apply below_drew1 | refine below_set ?_ GE108.out) | exact HB.out)) hb); clear BK108; clear HB; have HO111 := n0_; have BK108 := n1_; have HB := n2_; clear n0_ n1_ n2_; (try clear hb); (try clear hb2); (try clear hk); (try clear hi); (try clear ho0); obtain ⟨Ao8, co8, eo8⟩ := Kd.R_slice HO111.out; subst eo8; have p112 : 0 ≤ ((ji3) : Int) := of_decide_eq_true (by first | (with_reducible assumption) | assumption); have q112 : (ji3) < (t109.length : Int) := of_decide_eq_true (by first | (with_reducible assumption) | assumption); obtain ⟨ad112, e112, hx112_0, hx112_1, hx112_2, hx112_3⟩ := at_T80 (Kd.R_reads' HO111.out).2.2 (ji3) p112 q112; cases e112; replace p112 := eq_true p112; replace q112 := eq_true q112; have hcz9_0 : w7.cell? ⟨gb108, 0, none⟩ = some (.int .i64 0) := (blk_cell BK108.out 0).trans rfl; have hcz9_1 : w7.cell? ⟨gb108, 1, none⟩ = some (.int .i64 0) := (blk_cell BK108.out 1).trans rfl; have hcz9_2 : w7.cell? ⟨gb108, 2, none⟩ = some (.int .i64 0) := (blk_cell BK108.out 2).trans rfl; have hcz9_3 : w7.cell? ⟨gb108, 3, none⟩ = some (.int .i64 0) := (blk_cell BK108.out 3).trans rfl; have hfz9_0 := blk_frozen BK108.out 0; have hfz9_1 := blk_frozen BK108.out 1; have hfz9_2 := blk_frozen BK108.out 2; have hfz9_3 := blk_frozen BK108.out 3) | ((with_reducible refine gate_store (t := 80) (p := 2) rfl ?_); refine store_event (t := 80) (p := 2) (v := ?vo_w10) (w1 := ((((w7.setCell ⟨gb108, 0, none⟩ (.int .i64 ((rd_T80 t109 (ji3)).f0))).setCell ⟨gb108, 1, none⟩ (.int .i64 ((rd_T80 t109 (ji3)).f1))).setCell ⟨gb108, 2, none⟩ (.int .i64 ((rd_T80 t109 (ji3)).f2))).setCell ⟨gb108, 3, none⟩ (.int .i64 ((rd_T80 t109 (ji3)).f3)))) ?hg ?ho ?hn ?hr ?_; (case ho => rfl); (case hg => rfl); (case hn => rfl); (case hr => exact pr_store_exec rfl rfl rfl (run_store_run (P := Try.prog) (o := 0) (cur := #[.int .i64 0, .int .i64 0, .int .i64 0, .int .i64 0]) 80 (.agg #[.int .i64 ((rd_T80 t109 (ji3)).f0), .int .i64 ((rd_T80 t109 (ji3)).f1), .int .i64 ((rd_T80 t109 (ji3)).f2), .int .i64 ((rd_T80 t109 (ji3)).f3)]) [.int .i64 ((rd_T80 t109 (ji3)).f0), .int .i64 ((rd_T80 t109 (ji3)).f1), .int .i64 ((rd_T80 t109 (ji3)).f2), .int .i64 ((rd_T80 t109 (ji3)).f3)] (show _ = some (Obj.cells #[.int .i64 0, .int .i64 0, .int .i64 0, .int .i64 0] 80 (0, 0)) from (by (with_reducible repeat (first | refine blk_drewN ?_ _ | refine blk_drew ?_ | refine blk_alloc ?_ _)); exact BK108.out)) rfl (by kernel_rfl) (show 4 ≤ 4 by decide) (by intro q_ hq_; simp only [List.mem_cons, List.not_mem_nil, or_false] at hq_; rcases hq_ with rfl | rfl | rfl | rfl <;> rfl))); intro w10 hw; have n0_ : Aside0 (Kd.R k80 80 w10 w.heap.size (fun k_ => k_ ≠ gb108) (.slice (some ad112) t109.length co8) t109) := ⟨(by rw [hw]; exact (by (with_reducible repeat (first | apply Kd.R_alloc | apply Kd.R_drewN | apply Kd.R_drew)); exact Kd.R_mono (Kd.R_far (p := ⟨gb108, 3, none⟩) (Kd.R_far (p := ⟨gb108, 2, none⟩) (Kd.R_far (p := ⟨gb108, 1, none⟩) (Kd.R_far (p := ⟨gb108, 0, none⟩) (Kd.R_mono HO111.out (fun k_ hk => (⟨hk, hk.2⟩ : _ ∧ k_ ≠ gb108))) (fun _ hk => hk.2) (.int .i64 ((rd_T80 t109 (ji3)).f0))) (fun _ hk => hk.2) (.int .i64 ((rd_T80 t109 (ji3)).f1))) (fun _ hk => hk.2) (.int .i64 ((rd_T80 t109 (ji3)).f2))) (fun _ hk => hk.2) (.int .i64 ((rd_T80 t109 (ji3)).f3))) (fun _ hk => hk.1.2)))⟩; have n1_ : Aside0 (w10.heap[gb108]? = some (.cells #[.int .i64 ((rd_T80 t109 (ji3)).f0), .int .i64 ((rd_T80 t109 (ji3)).f1), .int .i64 ((rd_T80 t109 (ji3)).f2), .int .i64 ((rd_T80 t109 (ji3)).f3)] 80 (0, 0))) := ⟨(by rw [hw]; exact (by (with_reducible repeat (first | refine blk_drewN ?_ _ | refine blk_drew ?_ | refine blk_alloc ?_ _)); refine blk_put (cs := #[.int .i64 ((rd_T80 t109 (ji3)).f0), .int .i64 ((rd_T80 t109 (ji3)).f1), .int .i64 ((rd_T80 t109 (ji3)).f2), .int .i64 0]) ?_ 3 _ rfl; (with_reducible repeat (first | refine blk_drewN ?_ _ | refine blk_drew ?_ | refine blk_alloc ?_ _)); refine blk_put (cs := #[.int .i64 ((rd_T80 t109 (ji3)).f0), .int .i64 ((rd_T80 t109 (ji3)).f1), .int .i64 0, .int .i64 0]) ?_ 2 _ rfl; (with_reducible repeat (first | refine blk_drewN ?_ _ | refine blk_drew ?_ | refine blk_alloc ?_ _)); refine blk_put (cs := #[.int .i64 ((rd_T80 t109 (ji3)).f0), .int .i64 0, .int .i64 0, .int .i64 0]) ?_ 1 _ rfl; (with_reducible repeat (first | refine blk_drewN ?_ _ | refine blk_drew ?_ | refine blk_alloc ?_ _)); refine blk_put (cs := #[.int .i64 0, .int .i64 0, .int .i64 0, .int .i64 0]) ?_ 0 _ rfl; (with_reducible repeat (first | refine blk_drewN ?_ _ | refine blk_drew ?_ | refine blk_alloc ?_ _)); exact BK108.out))⟩; have n2_ : Aside0 (Below w.heap.size w w10) := ⟨(by rw [hw]; exact (by repeat (first | (with_reducible first | exact HB.out | apply below_alloc | apply pw_below_drewN | apply below_drew1 | refine below_set ?_ GE108.out) | exact HB.out)))⟩; clear hw; clear HO111; clear BK108; clear HB; have HO111 := n0_; have BK108 := n1_; have HB := n2_; clear n0_ n1_ n2_))
      refine bodyPost_ret (results_cell_row rfl _ _ gb108 80 #[.int .i64 ((rd_T80 t109 (ji3)).f0), .int .i64 ((rd_T80 t109 (ji3)).f1), .int .i64 ((rd_T80 t109 (ji3)).f2), .int .i64 ((rd_T80 t109 (ji3)).f3)] (0, 0) _ rfl (by (with_reducible repeat (first | refine blk_drewN ?_ _ | refine blk_drew ?_ | refine blk_alloc ?_ _)); exact BK108.out) Try.underlying80 rfl (by kernel_rfl)) rfl ?_
      exact ⟨by first | rfl | (simp [errW_none, errW_some] <;> rfl) | (simp only [← hji3]; first | rfl | (simp [errW_none, errW_some] <;> rfl)) | (simp [*, errW_none, errW_some] <;> rfl), by repeat (first | (with_reducible first | exact HB.out | apply below_alloc | apply pw_below_drewN | apply below_drew1 | refine below_set ?_ GE108.out) | exact HB.out)⟩
    · rw [if_neg c5] at H
      exact absurd H (by simp)
  · rw [if_neg c4] at H
    exact absurd H (by simp)

/-! ### plan_Size: function 25 -/
def plan_Size.f (k : Nat)  : Option (Int) := (plan_of.f k 5).bind fun bt113 => ((plan_part_end.f bt113.1 bt113.2.1 bt113.2.2.1 bt113.2.2.2).bind fun t117 => (some t117))
set_option maxHeartbeats 8000000 in
set_option maxRecDepth 100000 in
theorem plan_Size.calls (k : Nat)  (r : Int) (w : World) (h : plan_Size.f k  = some r) :
    Calls Try.prog 25 #[] w fun e w' => e = .returned (.int .i64 r) ∧ Below w.heap.size w w' := by
  have HB := Aside0.mk (Below.refl w.heap.size w)
  have H : ((plan_of.f k 5).bind fun bt113 => ((plan_part_end.f bt113.1 bt113.2.1 bt113.2.2.1 bt113.2.2.2).bind fun t117 => (some t117))) = some r := h
  clear h
  replace H := Option.bind_eq_some_iff.mp H
  obtain ⟨⟨t113, t114, t115, t116⟩, A10, H⟩ := H
  replace H : ((plan_part_end.f t113 t114 t115 t116).bind fun t117 => (some t117)) = some r := H
  have A1 := Aside0.mk A10
  clear A10
  replace H := Option.bind_eq_some_iff.mp H
  obtain ⟨t117, A20, H⟩ := H
  replace H : (some t117) = some r := H
  have A2 := Aside0.mk A20
  clear A20
  obtain rfl := Option.some.inj H
  go_enter Try.func25, Try.ntmps25
  go_wp2_with (first | ((with_reducible refine gate_callee (f := 42) rfl ?_); refine goesL_ (some 1) rfl rfl Try.func42 (by kernel_rfl) rfl #[.int .i64 5] rfl (by (try simp only [List.map_toArray, List.map_cons, List.map_nil]); first | done | rfl | (simp only [List.length_drop, List.length_take]; rfl)) ?_; (with_reducible refine (plan_of.calls k 5 t113 t114 t115 t116 _ A1.out).mono ?_); rintro e w3 ⟨rfl, hb⟩; refine ⟨_, rfl, ?_⟩; have n0_ := Aside0.mk (below_step (by repeat (first | (with_reducible first | exact HB.out | apply below_alloc | apply pw_below_drewN | apply below_drew1) | exact HB.out)) hb); clear HB; have HB := n0_; clear n0_; (try clear hb); (try clear hb2); (try clear hk); (try clear hi)) | ((with_reducible refine gate_callee (f := 43) rfl ?_); refine goesL_ (some 2) rfl rfl Try.func43 (by kernel_rfl) rfl #[.agg #[.int .i64 t113, .int .i64 t114, .int .i64 t115, .int .i64 t116]] rfl (by (try simp only [List.map_toArray, List.map_cons, List.map_nil]); first | done | rfl | (simp only [List.length_drop, List.length_take]; rfl)) ?_; (with_reducible refine (plan_part_end.calls t113 t114 t115 t116 t117 _ A2.out).mono ?_); rintro e w4 ⟨rfl, hb⟩; refine ⟨_, rfl, ?_⟩; have n0_ := Aside0.mk (below_step (by repeat (first | (with_reducible first | exact HB.out | apply below_alloc | apply pw_below_drewN | apply below_drew1) | exact HB.out)) hb); clear HB; have HB := n0_; clear n0_; (try clear hb); (try clear hb2); (try clear hk); (try clear hi)))
  go_ret
  exact ⟨by first | rfl | (simp [errW_none, errW_some] <;> rfl) | (simp [*, errW_none, errW_some] <;> rfl), by repeat (first | (with_reducible first | exact HB.out | apply below_alloc | apply pw_below_drewN | apply below_drew1) | exact HB.out)⟩

/-! ### plan_Head: function 23 -/
def plan_Head.f (k : Nat)  : Option (List Int) := if 8 ≤ 35184372088832 then ((some (List.replicate 8 0 : List Int)).bind fun y118 => ((plan_Size.f k).bind fun t121 => (if 0 < (y118.length : Int) then (if 1 < (y118.length : Int) then (some ((y118.set (0 : Int).toNat 7021221306412823411).set (1 : Int).toNat (IntKind.u64.wrap (t121)))) else (none)) else (none)))) else (none)
set_option maxHeartbeats 8000000 in
set_option maxRecDepth 100000 in
theorem plan_Head.calls (k : Nat)  (r : List Int) (w : World) (h : plan_Head.f k  = some r) :
    Calls Try.prog 23 #[] w fun e w' => ∃ v0_ : Value, e = .returned (v0_) ∧ Kd.R (Kd.int .u64) 41 w' w.heap.size (fun _ => True) v0_ r ∧ Below w.heap.size w w' := by
  have HB := Aside0.mk (Below.refl w.heap.size w)
  have H : (if 8 ≤ 35184372088832 then ((some (List.replicate 8 0 : List Int)).bind fun y118 => ((plan_Size.f k).bind fun t121 => (if 0 < (y118.length : Int) then (if 1 < (y118.length : Int) then (some ((y118.set (0 : Int).toNat 7021221306412823411).set (1 : Int).toNat (IntKind.u64.wrap (t121)))) else (none)) else (none)))) else (none)) = some r := h
  clear h
  have H1 : ((some (List.replicate 8 0 : List Int)).bind fun y118 => ((plan_Size.f k).bind fun t121 => (if 0 < (y118.length : Int) then (if 1 < (y118.length : Int) then (some ((y118.set (0 : Int).toNat 7021221306412823411).set (1 : Int).toNat (IntKind.u64.wrap (t121)))) else (none)) else (none)))) = some r := by rw [if_pos (by decide)] at H; exact H
  clear H
  have H := H1
  clear H1
  obtain ⟨y118, hy118⟩ : ∃ y_ : List Int, y_ = (List.replicate 8 0) := ⟨_, rfl⟩
  replace H : ((plan_Size.f k).bind fun t121 => (if 0 < (y118.length : Int) then (if 1 < (y118.length : Int) then (some ((y118.set (0 : Int).toNat 7021221306412823411).set (1 : Int).toNat (IntKind.u64.wrap (t121)))) else (none)) else (none))) = some r := by first | (rw [hy118]; with_reducible exact H) | (have H2_ := (Option.bind_some _ _).symm.trans H; rw [hy118]; with_reducible exact H2_) | (have H2_ := (Option.bind_some _ _).symm.trans H; with_reducible exact H2_) | with_reducible exact H | (rw [hy118]; exact H) | exact H
  have Ny118 := Aside0.mk hy118
  clear hy118
  replace H := Option.bind_eq_some_iff.mp H
  obtain ⟨t121, A10, H⟩ := H
  replace H : (if 0 < (y118.length : Int) then (if 1 < (y118.length : Int) then (some ((y118.set (0 : Int).toNat 7021221306412823411).set (1 : Int).toNat (IntKind.u64.wrap (t121)))) else (none)) else (none)) = some r := H
  have A1 := Aside0.mk A10
  clear A10
  by_cases c2 : 0 < (y118.length : Int)
  · rw [if_pos c2] at H
    have c2b0 : decide (0 < (y118.length : Int)) = true := decide_eq_true c2
    have c2b1 : decide (0 < y118.length) = true := decide_eq_true (by omega)
    clear c2
    obtain ⟨y122, hy122⟩ : ∃ y_ : List Int, y_ = (y118.set (0 : Int).toNat 7021221306412823411) := ⟨_, rfl⟩
    replace H : (if 1 < (y118.length : Int) then (some (y122.set (1 : Int).toNat (IntKind.u64.wrap (t121)))) else (none)) = some r := by first | (rw [hy122]; with_reducible exact H) | (have H2_ := (Option.bind_some _ _).symm.trans H; rw [hy122]; with_reducible exact H2_) | (have H2_ := (Option.bind_some _ _).symm.trans H; with_reducible exact H2_) | with_reducible exact H | (rw [hy122]; exact H) | exact H
    have Ny122 := Aside0.mk hy122
    clear hy122
    by_cases c4 : 1 < (y118.length : Int)
    · rw [if_pos c4] at H
      have c4b0 : decide (1 < (y118.length : Int)) = true := decide_eq_true c4
      have c4b1 : decide (1 < y118.length) = true := decide_eq_true (by omega)
      clear c4
      obtain ⟨y123, hy123⟩ : ∃ y_ : List Int, y_ = (y122.set (1 : Int).toNat (IntKind.u64.wrap (t121))) := ⟨_, rfl⟩
      replace H : (some y123) = some r := by first | (rw [hy123]; with_reducible exact H) | (have H2_ := (Option.bind_some _ _).symm.trans H; rw [hy123]; with_reducible exact H2_) | (have H2_ := (Option.bind_some _ _).symm.trans H; with_reducible exact H2_) | with_reducible exact H | (rw [hy123]; exact H) | exact H
      have Ny123 := Aside0.mk hy123
      clear hy123
      obtain rfl := Option.some.inj H
      go_enter Try.func23, Try.ntmps23
      go_wp2_with (first | ((with_reducible refine gate_dst (N := 2) rfl ?_); refine Kd.R_make (Kd.int .u64) _ 41 rfl (N := 2) rfl 26 _ _ rfl 8 rfl rfl Try.underlying26 (.int .u64 0) 8 info41 rfl (by decide) (by omega) 0 (ok := fun _ => True) (okp := fun _ => True) rfl (fun _ hk => hk) trivial (by omega) (by omega) (Below.refl _ _) (Nat.le_refl _) ?_; intro v119 w6 ho7 hb hg_ hnew_; clear hg_ hnew_; (first | rw [← Ny118.out] at ho7 | (simp only [Int.reduceToNat] at ho7; rw [← Ny118.out] at ho7)); have n0_ := Aside0.mk (Kd.R_lower ho7 (below_size (by repeat (first | (with_reducible first | exact HB.out | apply below_alloc | apply pw_below_drewN | apply below_drew1) | exact HB.out)))); have n1_ := Aside0.mk (below_step (by repeat (first | (with_reducible first | exact HB.out | apply below_alloc | apply pw_below_drewN | apply below_drew1) | exact HB.out)) hb); clear HB; have HO120 := n0_; have HB := n1_; clear n0_ n1_; clear hb ho7) | ((with_reducible refine gate_callee (f := 25) rfl ?_); refine goesL_ (some 5) rfl rfl Try.func25 (by kernel_rfl) rfl #[] rfl (by (try simp only [List.map_toArray, List.map_cons, List.map_nil]); first | done | rfl | (simp only [List.length_drop, List.length_take]; rfl)) ?_; (with_reducible refine (plan_Size.calls k  t121 _ A1.out).mono ?_); rintro e w8 ⟨rfl, hb⟩; refine ⟨_, rfl, ?_⟩; have n0_ := Aside0.mk (Kd.R_below (by (with_reducible repeat (first | apply Kd.R_alloc | apply Kd.R_drewN | apply Kd.R_drew)); exact HO120.out) hb); have n1_ := Aside0.mk (below_step (by repeat (first | (with_reducible first | exact HB.out | apply below_alloc | apply pw_below_drewN | apply below_drew1) | exact HB.out)) hb); clear HO120; clear HB; have HO120 := n0_; have HB := n1_; clear n0_ n1_; (try clear hb); (try clear hb2); (try clear hk); (try clear hi); have p3 : 0 ≤ (0 : Int) := (by omega); have q3 : (0 : Int) < ((y118.length : Int) : Int) := of_decide_eq_true (by first | (with_reducible assumption) | assumption); have qi3 : (0 < y118.length) = True := eq_true (by omega); obtain ⟨go3, co3, eo3, gb3, gl3, cl3, HG3⟩ := Kd.R_form HO120.out (by omega); (first | cases eo3 | (injection eo3 with ea_ en_ ec_; (first | subst ea_ | (injection ea_ with ea_; subst ea_)); subst ec_; clear en_)); have GB3 := Aside0.mk gb3; have GG3 := Aside0.mk HG3; clear gb3 gl3 HG3; obtain ⟨hx3_0, hf3_0⟩ := Kd.R_celln 0 HO120.out (0 : Int) p3 q3; (try rw [show ((0 : Int)).toNat = 0 from rfl] at hx3_0); (try simp only [Nat.reduceMul, Nat.zero_mul, Nat.zero_add, Nat.reduceAdd] at hx3_0); (try rw [show ((0 : Int)).toNat = 0 from rfl] at hf3_0); (try simp only [Nat.reduceMul, Nat.zero_mul, Nat.zero_add, Nat.reduceAdd] at hf3_0); replace p3 := eq_true p3; replace q3 := eq_true q3; obtain ⟨hy9_, hz9_⟩ := Kd.R_celln 0 HO120.out (0 : Int) (by omega) (of_decide_eq_true (by first | (with_reducible assumption) | assumption)); (try simp only [Int.reduceToNat, Int.toNat_zero, Int.toNat_ofNat, Nat.reduceMul, Nat.zero_mul, Nat.zero_add] at hy9_ hz9_); (try rw [show ((0 : Int)).toNat = 0 from rfl] at hy9_); (try rw [show ((0 : Int)).toNat = 0 from rfl] at hz9_); have HP9 := Kd.R_putg HO120.out (0 : Int) 7021221306412823411) | ((with_reducible refine gate_store (t := 41) (p := 7) rfl ?_); refine store_event (t := 41) (p := 7) (v := ?vo_w10) (w1 := (w8.setCell ⟨go3, (0 : Int).toNat, none⟩ (.int .u64 7021221306412823411))) ?hg ?ho ?hn ?hr ?_; (case ho => rfl); (case hg => rfl); (case hn => rfl); (case hr => first | (go_simp; done) | (go_simp; rfl)); intro w10 hw; have hg : w8.grownBy w10 (some go3) := (by rw [hw]; exact HP9.2); have hp_ : Kd.R (Kd.int .u64) 41 w10 w.heap.size (fun _ => True) (.slice (some ⟨go3, 0, none⟩) y118.length co3) y122 := (by rw [hw, Ny122.out]; exact HP9.1); clear HP9; have n0_ := Aside0.mk (hp_); have n1_ := Aside0.mk ((by rw [hw]; exact below_set (HB.out) GB3.out : Below w.heap.size w w10)); clear HO120; clear HB; have HO120 := n0_; have HB := n1_; clear n0_ n1_; clear hg hw hp_; have p5 : 0 ≤ (1 : Int) := (by omega); have q5 : (1 : Int) < ((y118.length : Int) : Int) := of_decide_eq_true (by first | (with_reducible assumption) | assumption); have qi5 : (1 < y118.length) = True := eq_true (by omega); obtain ⟨hx5_0, hf5_0⟩ := Kd.R_celln 0 HO120.out (1 : Int) p5 q5; (try rw [show ((1 : Int)).toNat = 1 from rfl] at hx5_0); (try simp only [Nat.reduceMul, Nat.zero_mul, Nat.zero_add, Nat.reduceAdd] at hx5_0); (try rw [show ((1 : Int)).toNat = 1 from rfl] at hf5_0); (try simp only [Nat.reduceMul, Nat.zero_mul, Nat.zero_add, Nat.reduceAdd] at hf5_0); replace p5 := eq_true p5; replace q5 := eq_true q5; obtain ⟨hy11_, hz11_⟩ := Kd.R_celln 0 HO120.out (1 : Int) (by omega) (of_decide_eq_true (by first | (with_reducible assumption) | assumption)); (try simp only [Int.reduceToNat, Int.toNat_zero, Int.toNat_ofNat, Nat.reduceMul, Nat.zero_mul, Nat.zero_add] at hy11_ hz11_); (try rw [show ((1 : Int)).toNat = 1 from rfl] at hy11_); (try rw [show ((1 : Int)).toNat = 1 from rfl] at hz11_); have HP11 := Kd.R_putg HO120.out (1 : Int) (IntKind.u64.wrap (t121))) | ((with_reducible refine gate_store (t := 41) (p := 8) rfl ?_); refine store_event (t := 41) (p := 8) (v := ?vo_w12) (w1 := (w10.setCell ⟨go3, (1 : Int).toNat, none⟩ (.int .u64 (IntKind.u64.wrap (t121))))) ?hg ?ho ?hn ?hr ?_; (case ho => rfl); (case hg => rfl); (case hn => rfl); (case hr => first | (go_simp; done) | (go_simp; rfl)); intro w12 hw; have hg : w10.grownBy w12 (some go3) := (by rw [hw]; exact HP11.2); have hp_ : Kd.R (Kd.int .u64) 41 w12 w.heap.size (fun _ => True) (.slice (some ⟨go3, 0, none⟩) y118.length co3) y123 := (by rw [hw, Ny123.out]; exact HP11.1); clear HP11; have n0_ := Aside0.mk (hp_); have n1_ := Aside0.mk ((by rw [hw]; exact below_set (HB.out) GB3.out : Below w.heap.size w w12)); clear HO120; clear HB; have HO120 := n0_; have HB := n1_; clear n0_ n1_; clear hg hw hp_))
      go_ret
      exact ⟨_, by first | rfl | (simp [errW_none, errW_some] <;> rfl) | (simp [*, errW_none, errW_some] <;> rfl), by (with_reducible repeat (first | apply Kd.R_alloc | apply Kd.R_drewN | apply Kd.R_drew)); exact HO120.out, by repeat (first | (with_reducible first | exact HB.out | apply below_alloc | apply pw_below_drewN | apply below_drew1) | exact HB.out)⟩
    · rw [if_neg c4] at H
      exact absurd H (by simp)
  · rw [if_neg c2] at H
    exact absurd H (by simp)

/-! ### escritoirelaw09_image: function 9 -/
def escritoirelaw09_image.l0 : Nat → List (S60) → List Int → Int → Option (List Int)
  | 0, _, _, _ => none
  | k + 1, x0, x3, x4 => if x4 < (x0.length : Int) then (if x4 < 100 then (if 0 ≤ x4 then (if (IntKind.u64.wrap ((x3.length : Int))) = 0 then (none) else (if 0 ≤ (wrap64 (Int.tmod (IntKind.u64.wrap ((rd_T60 x0 x4).f0)) (IntKind.u64.wrap ((x3.length : Int))))) then (if (wrap64 (Int.tmod (IntKind.u64.wrap ((rd_T60 x0 x4).f0)) (IntKind.u64.wrap ((x3.length : Int))))) < (x3.length : Int) then (escritoirelaw09_image.l0 k x0 (x3.set ((wrap64 (Int.tmod (IntKind.u64.wrap ((rd_T60 x0 x4).f0)) (IntKind.u64.wrap ((x3.length : Int))))) : Int).toNat ((rd_T60 x0 x4).f1)) (wrap64 (x4 + 1))) else (none)) else (none))) else (none)) else (some x3)) else (some x3)
def escritoirelaw09_image.f (k : Nat) (l0 : List (S60)) : Option (List Int) := if 2824 ≤ 35184372088832 then ((plan_Head.f k).bind fun t127 => (escritoirelaw09_image.l0 k l0 (cpy (List.replicate 2824 0) 0 t127) 0)) else (none)
def escritoirelaw09_image.T6 : Bool × List (List Nat × List Nat) := (true, [([], []), ([], []), ([], []), ([1, 2], [1, 2]), ([3], [3]), ([4], [4]), ([5], [5]), ([], []), ([7], [7]), ([8], [8]), ([6, 9], [6, 9]), ([10], [10]), ([], []), ([], []), ([12, 13], [12, 13]), ([14], [14]), ([15], [15]), ([0, 11, 0, 1, 2, 3, 4, 5, 6, 7, 8, 9, 10, 11, 12, 13, 14, 15, 16], [0, 11]), ([17, 16, 0, 1, 2, 3, 4, 5, 6, 7, 8, 9, 10, 11, 12, 13, 14, 15, 16], [16, 17])])
def escritoirelaw09_image.B6 : List Nat := [0, 0, 0, 6, 14, 30, 62, 0, 128, 384, 1022, 2046, 0, 0, 12288, 28672, 61440, 131071, 262143]
theorem escritoirelaw09_image.tab6 : rtab .any (opsOf Try.f9 6) = escritoirelaw09_image.T6 := by kernel_rfl
theorem escritoirelaw09_image.bits6 : waitsOk escritoirelaw09_image.T6.2 escritoirelaw09_image.B6 = true := by kernel_rfl
set_option maxHeartbeats 8000000 in
set_option maxRecDepth 100000 in
theorem escritoirelaw09_image.calls (k : Nat) (A0 : Option Addr) (c0 : Nat) (l0 : List (S60)) (r : List Int) (w : World) (hr0 : Kd.C k60 w A0 l0.length l0) (hc0 : l0.length ≤ c0) (h : escritoirelaw09_image.f k l0 = some r) :
    Calls Try.prog 9 #[.slice A0 l0.length c0] w fun e w' => ∃ v0_ : Value, e = .returned (v0_) ∧ Kd.R (Kd.int .u64) 41 w' w.heap.size (fun _ => True) v0_ r ∧ Below w.heap.size w w' := by
  have HR0 := Aside0.mk hr0
  have HC0 := Aside0.mk hc0
  clear hr0 hc0
  have HB := Aside0.mk (Below.refl w.heap.size w)
  have H : (if 2824 ≤ 35184372088832 then ((plan_Head.f k).bind fun t127 => (escritoirelaw09_image.l0 k l0 (cpy (List.replicate 2824 0) 0 t127) 0)) else (none)) = some r := h
  clear h
  have H1 : ((plan_Head.f k).bind fun t127 => (escritoirelaw09_image.l0 k l0 (cpy (List.replicate 2824 0) 0 t127) 0)) = some r := by rw [if_pos (by decide)] at H; exact H
  clear H
  have H := H1
  clear H1
  obtain ⟨y124, hy124⟩ : ∃ y_ : List Int, y_ = (List.replicate 2824 0) := ⟨_, rfl⟩
  replace H : ((plan_Head.f k).bind fun t127 => (escritoirelaw09_image.l0 k l0 (cpy y124 0 t127) 0)) = some r := by first | (rw [hy124]; with_reducible exact H) | (have H2_ := (Option.bind_some _ _).symm.trans H; rw [hy124]; with_reducible exact H2_) | (have H2_ := (Option.bind_some _ _).symm.trans H; with_reducible exact H2_) | with_reducible exact H | (rw [hy124]; exact H) | exact H
  have Ny124 := Aside0.mk hy124
  clear hy124
  replace H := Option.bind_eq_some_iff.mp H
  obtain ⟨t127, A20, H⟩ := H
  replace H : (escritoirelaw09_image.l0 k l0 (cpy y124 0 t127) 0) = some r := H
  have A2 := Aside0.mk A20
  clear A20
  obtain ⟨y130, hy130⟩ : ∃ y_ : List Int, y_ = (cpy y124 0 t127) := ⟨_, rfl⟩
  replace H : (escritoirelaw09_image.l0 k l0 y130 0) = some r := by first | (rw [hy130]; with_reducible exact H) | (have H2_ := (Option.bind_some _ _).symm.trans H; rw [hy130]; with_reducible exact H2_) | (have H2_ := (Option.bind_some _ _).symm.trans H; with_reducible exact H2_) | with_reducible exact H | (rw [hy130]; exact H) | exact H
  have Ny130 := Aside0.mk hy130
  clear hy130
  have H' := Aside0.mk H
  clear H
  go_enter Try.func9, Try.ntmps9
  go_wp2_with (first | ((with_reducible refine gate_dst (N := 5) rfl ?_); refine Kd.R_make (Kd.int .u64) _ 41 rfl (N := 5) rfl 26 _ _ rfl 2824 rfl rfl Try.underlying26 (.int .u64 0) 8 info41 rfl (by decide) (by omega) 0 (ok := fun _ => True) (okp := fun _ => True) rfl (fun _ hk => hk) trivial (by omega) (by omega) (Below.refl _ _) (Nat.le_refl _) ?_; intro v125 w3 ho4 hb hg_ hnew_; clear hg_ hnew_; (first | rw [← Ny124.out] at ho4 | (simp only [Int.reduceToNat] at ho4; rw [← Ny124.out] at ho4)); have n0_ := Aside0.mk (Kd.R_lower ho4 (below_size (by repeat (first | (with_reducible first | exact HB.out | apply below_alloc | apply pw_below_drewN | apply below_drew1) | exact HB.out)))); have n1_ := Aside0.mk (below_step (by repeat (first | (with_reducible first | exact HB.out | apply below_alloc | apply pw_below_drewN | apply below_drew1) | exact HB.out)) hb); clear HB; have HO126 := n0_; have HB := n1_; clear n0_ n1_; clear hb ho4) | ((with_reducible refine gate_callee (f := 23) rfl ?_); refine goesL_ (some 7) rfl rfl Try.func23 (by kernel_rfl) rfl #[] rfl (by (try simp only [List.map_toArray, List.map_cons, List.map_nil]); first | done | rfl | (simp only [List.length_drop, List.length_take]; rfl)) ?_; (with_reducible refine (plan_Head.calls k  t127 _ A2.out).mono ?_); rintro e w5 ⟨v128, rfl, ho0, hb⟩; refine ⟨_, rfl, ?_⟩; have n0_ := Aside0.mk (Kd.R_elder' (by (with_reducible repeat (first | apply Kd.R_alloc | apply Kd.R_drewN | apply Kd.R_drew)); exact HO126.out) (Kd.R_base ho0) hb); have n1_ := Aside0.mk (Kd.R_lower (Kd.R_new' ho0 (Kd.R_lt (by (with_reducible repeat (first | apply Kd.R_alloc | apply Kd.R_drewN | apply Kd.R_drew)); exact HO126.out))) (below_size (by repeat (first | (with_reducible first | exact HB.out | apply below_alloc | apply pw_below_drewN | apply below_drew1) | exact HB.out)))); have n2_ := Aside0.mk (below_step (by repeat (first | (with_reducible first | exact HB.out | apply below_alloc | apply pw_below_drewN | apply below_drew1) | exact HB.out)) hb); clear HO126; clear HB; have HO126 := n0_; have HO129 := n1_; have HB := n2_; clear n0_ n1_ n2_; (try clear hb); (try clear hb2); (try clear hk); (try clear hi); (try clear ho0); have n_ := Aside0.mk (Kd.R_mono (ok' := (fun k_ => some k_ ≠ (v128 : Value).ownBlock)) HO126.out (fun k_ hk => hk.2)); clear HO126; have HO126 := n_; clear n_; obtain ⟨Ao8, co8, eo8⟩ := Kd.R_slice HO129.out; subst eo8) | ((with_reducible refine gate_builtin (b := .copy) (xs := #[.tmp 6, .tmp 7]) rfl ?_); skip; refine kd_copy (enc := Value.int .u64) (h1 := fun _ => rfl) (w0 := w) w.heap.size rfl (.tmp 6) (.tmp 7) 26 26 41 rfl Try.underlying26 (by kernel_rfl) v125 y124 t127 _ _ _ (fun k_ => some k_ ≠ (.slice Ao8 t127.length co8 : Value).ownBlock) rfl rfl ?cO ?cR ?cB ?cS ?_; (case cO => exact (by (with_reducible repeat (first | apply Kd.R_alloc | apply Kd.R_drewN | apply Kd.R_drew)); exact HO126.out)); (case cR => repeat (first | exact (Kd.R_reads' HO129.out).2.2 | (with_reducible refine Kd.C_alloc ?_ _) | (with_reducible refine Kd.C_drewN ?_ _) | (with_reducible refine Kd.C_drew ?_))); (case cB => exact (by repeat (first | (with_reducible first | exact HB.out | apply below_alloc | apply pw_below_drewN | apply below_drew1) | exact HB.out))); (case cS => exact ((below_size (by repeat (first | (with_reducible first | exact HB.out | apply below_alloc | apply pw_below_drewN | apply below_drew1) | exact HB.out))))); intro w6 ho hb hg; skip; rw [← Ny130.out] at ho; replace ho : Kd.R (Kd.int .u64) 41 w6 w.heap.size (fun k_ => some k_ ≠ (.slice Ao8 t127.length co8 : Value).ownBlock) v125 y130 := ho; have n0_ := Aside0.mk (ho); have n1_ := Aside0.mk (Kd.R_after (v := v125) (v1 := v125) (ok := (fun _ => True)) (by (with_reducible repeat (first | apply Kd.R_alloc | apply Kd.R_drewN | apply Kd.R_drew)); exact HO129.out) hg (.inl rfl)); have n2_ := Aside0.mk (hb); clear HO126; clear HO129; clear HB; have HO126 := n0_; have HO129 := n1_; have HB := n2_; clear n0_ n1_ n2_; clear ho hb hg))
  go_loopg [4] k (fun kq v4 w' => ∃ (x3_1 : List Int) (x4_1 : Int), v4 = .int .i64 x4_1 ∧ Aside0 (escritoirelaw09_image.l0 kq l0 x3_1 x4_1 = some r) ∧ Aside0 (kq ≤ k) ∧ Aside0 (Kd.R (Kd.int .u64) 41 w' w.heap.size (fun _ => True) v125 x3_1) ∧ Aside0 (Below w.heap.size w w'))
  case atStart => exact ⟨(y130), (0), (by first | rfl | (simp; done) | (simp [*]; done) | kernel_rfl), H', ⟨Nat.le_refl _⟩, ⟨by (with_reducible repeat (first | apply Kd.R_alloc | apply Kd.R_drewN | apply Kd.R_drew)); exact Kd.R_mono HO126.out (fun _ hk => trivial)⟩, ⟨by repeat (first | (with_reducible first | exact HB.out | apply below_alloc | apply pw_below_drewN | apply below_drew1) | exact HB.out)⟩⟩
  case round =>
    clear H'
    try clear c2
    try clear p2
    obtain ⟨x3_1, x4_1, rfl, HA, HK1, HO_3, HB⟩ := hrel
    cases gk with
    | zero => exact absurd HA.out (by simp [escritoirelaw09_image.l0])
    | succ k1 =>
      have H := HA.out
      clear HA
      simp only [escritoirelaw09_image.l0] at H
      by_cases c9 : x4_1 < (l0.length : Int)
      · rw [if_pos c9] at H
        have c9b0 : decide (x4_1 < (l0.length : Int)) = true := decide_eq_true c9
        clear c9
        by_cases c10 : x4_1 < 100
        · rw [if_pos c10] at H
          have c10b0 : decide (x4_1 < 100) = true := decide_eq_true c10
          clear c10
          by_cases c11 : 0 ≤ x4_1
          · rw [if_pos c11] at H
            have c11b0 : decide (0 ≤ x4_1) = true := decide_eq_true c11
            clear c11
            by_cases c12 : (IntKind.u64.wrap ((x3_1.length : Int))) = 0
            · rw [if_pos c12] at H
              exact absurd H (by simp)
            · rw [if_neg c12] at H
              have c12b0 : ((IntKind.u64.wrap ((x3_1.length : Int))) == 0) = false := beq_eq_false_iff_ne.mpr c12
              have c12b1 : ((IntKind.u64.wrap ((x3_1.length : Int))) != 0) = true := bne_iff_ne.mpr c12
              obtain ⟨ji13, hji13⟩ : ∃ j_ : Int, (wrap64 (Int.tmod (IntKind.u64.wrap ((rd_T60 l0 x4_1).f0)) (IntKind.u64.wrap ((x3_1.length : Int))))) = j_ := ⟨_, rfl⟩
              replace H : (if 0 ≤ (ji13) then (if (ji13) < (x3_1.length : Int) then (escritoirelaw09_image.l0 k1 l0 (x3_1.set ((ji13) : Int).toNat ((rd_T60 l0 x4_1).f1)) (wrap64 (x4_1 + 1))) else (none)) else (none)) = some r := by first | (rw [hji13] at H; exact H) | (simp only [hji13] at H ⊢; exact H)
              have hji13w : (IntKind.i64.wrap (Int.tmod (IntKind.u64.wrap ((rd_T60 l0 x4_1).f0)) (IntKind.u64.wrap ((x3_1.length : Int))))) = ji13 := (i64_w _).trans hji13
              by_cases c14 : 0 ≤ (ji13)
              · rw [if_pos c14] at H
                have c14b0 : decide (0 ≤ (ji13)) = true := decide_eq_true c14
                clear c14
                by_cases c15 : (ji13) < (x3_1.length : Int)
                · rw [if_pos c15] at H
                  have c15b0 : decide ((ji13) < (x3_1.length : Int)) = true := decide_eq_true c15
                  clear c15
                  obtain ⟨y133, hy133⟩ : ∃ y_ : List Int, y_ = (x3_1.set ((ji13) : Int).toNat ((rd_T60 l0 x4_1).f1)) := ⟨_, rfl⟩
                  replace H : (escritoirelaw09_image.l0 k1 l0 y133 (wrap64 (x4_1 + 1))) = some r := by first | (rw [hy133]; with_reducible exact H) | (have H2_ := (Option.bind_some _ _).symm.trans H; rw [hy133]; with_reducible exact H2_) | (have H2_ := (Option.bind_some _ _).symm.trans H; with_reducible exact H2_) | with_reducible exact H | (rw [hy133]; exact H) | exact H
                  have Ny133 := Aside0.mk hy133
                  clear hy133
                  have H' := Aside0.mk H
                  clear H
                  try go_wp2
                  have n0_ := Aside0.mk (Kd.R_drew HO_3.out)
                  have n1_ := Aside0.mk (below_drew1 HB.out)
                  clear HO_3
                  clear HB
                  have HO_3 := n0_
                  have HB := n1_
                  clear n0_ n1_
                  have p131 : 0 ≤ (x4_1 : Int) := of_decide_eq_true (by first | (with_reducible assumption) | assumption)
                  have q131 : x4_1 < (l0.length : Int) := of_decide_eq_true (by first | (with_reducible assumption) | assumption)
                  obtain ⟨ad131, e131, hx131_0, hx131_1⟩ := at_T60 HR0.out x4_1 p131 q131
                  have hw131_1 := hx131_1
                  have hw131_0 := hx131_0
                  cases e131
                  replace hx131_0 := (HB.out.cell (World.block_lt_of_cell? w _ hx131_0)).trans hx131_0
                  replace hx131_1 := (HB.out.cell (World.block_lt_of_cell? w _ hx131_1)).trans hx131_1
                  replace p131 := eq_true p131
                  replace q131 := eq_true q131
                  obtain ⟨Ao18, co18, eo18⟩ := Kd.R_slice HO_3.out
                  (first | subst eo18 | (injection eo18 with f1_ f2_ f3_; have f4_ := f1_.symm; have f5_ := f3_.symm; clear f1_ f2_ f3_; subst f4_; subst f5_))
                  have p132 : 0 ≤ (x4_1 : Int) := of_decide_eq_true (by first | (with_reducible assumption) | assumption)
                  have q132 : x4_1 < (l0.length : Int) := of_decide_eq_true (by first | (with_reducible assumption) | assumption)
                  obtain ⟨ad132, e132, hx132_0, hx132_1⟩ := at_T60 HR0.out x4_1 p132 q132
                  have hw132_1 := hx132_1
                  have hw132_0 := hx132_0
                  obtain rfl : ad131 = ad132 := (by injection e132)
                  replace hx132_0 := (HB.out.cell (World.block_lt_of_cell? w _ hx132_0)).trans hx132_0
                  replace hx132_1 := (HB.out.cell (World.block_lt_of_cell? w _ hx132_1)).trans hx132_1
                  replace p132 := eq_true p132
                  replace q132 := eq_true q132
                  have p16 : 0 ≤ ((ji13) : Int) := of_decide_eq_true (by first | (with_reducible assumption) | assumption)
                  have q16 : ((ji13) : Int) < ((x3_1.length : Int) : Int) := of_decide_eq_true (by first | (with_reducible assumption) | assumption)
                  obtain ⟨go16, co16, eo16, gb16, gl16, cl16, HG16⟩ := Kd.R_form HO_3.out (by omega)
                  (first | cases eo16 | (injection eo16 with ea_ en_ ec_; (first | subst ea_ | (injection ea_ with ea_; subst ea_)); subst ec_; clear en_))
                  have GB16 := Aside0.mk gb16
                  have GG16 := Aside0.mk HG16
                  clear gb16 gl16 HG16
                  obtain ⟨hx16_0, hf16_0⟩ := Kd.R_celln 0 HO_3.out ((ji13) : Int) p16 q16
                  replace p16 := eq_true p16
                  replace q16 := eq_true q16
                  have HP19 := Kd.R_putn HO_3.out ((ji13) : Int) ((rd_T60 l0 x4_1).f1)
                  rw [← Ny133.out] at HP19
                  have HQ19 := Aside0.mk HP19
                  clear HP19
                  refine start_ (n := 19) (S := fun w' => w'.cell? (ad131.add ((x4_1).toNat * 2)) = some (.int .i64 ((rd_T60 l0 x4_1).f0)) ∧ w'.cell? ⟨(ad131.add ((x4_1).toNat * 2)).block, (ad131.add ((x4_1).toNat * 2)).off + 1, none⟩ = some (.int .u64 ((rd_T60 l0 x4_1).f1)) ∧ w'.cell? (ad131.add ((x4_1).toNat * 2)) = some (.int .i64 ((rd_T60 l0 x4_1).f0)) ∧ w'.cell? ⟨(ad131.add ((x4_1).toNat * 2)).block, (ad131.add ((x4_1).toNat * 2)).off + 1, none⟩ = some (.int .u64 ((rd_T60 l0 x4_1).f1))) (ds := [18]) #[false, false, false, false, false, false, false, false, false, false, false, false, false, false, false, false, false, false, false] (by kernel_rfl) rfl rfl ⟨((HB.out.cell (World.block_lt_of_cell? w _ hw131_0)).trans hw131_0), ((HB.out.cell (World.block_lt_of_cell? w _ hw131_1)).trans hw131_1), ((HB.out.cell (World.block_lt_of_cell? w _ hw132_0)).trans hw132_0), ((HB.out.cell (World.block_lt_of_cell? w _ hw132_1)).trans hw132_1)⟩ (fun hHeld => ?_); refine with_tabW escritoirelaw09_image.tab6 escritoirelaw09_image.bits6 (fun HT_ HW_ => ?_)
                  generalize wr.drew = w17 at HO_3 HB GG16 HQ19 hf16_0 hx131_0 hx131_1 hx132_0 hx132_1 hx16_0 hHeld ⊢
                  refine pure_ (i := 0) (N := some 19) (v := ?_) (a' := ?_) #[true, false, false, false, false, false, false, false, false, false, false, false, false, false, false, false, false, false, false] rfl rfl (any_of HT_.out (by kernel_rfl)) (fun _ _ _ h => h) (Or.inl ⟨by rfl, ?_⟩) ?_ ?_
                  rotate_left
                  · intro w'
                    go_simp
                    with_reducible rfl
                  rotate_left
                  · simp only [Act.put, List.setIfInBounds_toArray, List.set_cons_zero, List.set_cons_succ, i64_w, i32_w]
                    rfl
                  refine pure_ (i := 1) (N := some 20) (v := ?_) (a' := ?_) #[true, true, false, false, false, false, false, false, false, false, false, false, false, false, false, false, false, false, false] rfl rfl (any_of HT_.out (by kernel_rfl)) (fun _ _ _ h => h) (Or.inl ⟨by rfl, ?_⟩) ?_ ?_
                  rotate_left
                  · intro w'
                    go_simp
                    with_reducible rfl
                  rotate_left
                  · simp only [Act.put, List.setIfInBounds_toArray, List.set_cons_zero, List.set_cons_succ, i64_w, i32_w]
                    rfl
                  refine pure_ (i := 2) (N := some 21) (v := ?_) (a' := ?_) #[true, true, true, false, false, false, false, false, false, false, false, false, false, false, false, false, false, false, false] rfl rfl (any_of HT_.out (by kernel_rfl)) (fun _ _ _ h => h) (Or.inl ⟨by rfl, ?_⟩) ?_ ?_
                  rotate_left
                  · intro w'
                    go_simp
                    with_reducible rfl
                  rotate_left
                  · simp only [Act.put, List.setIfInBounds_toArray, List.set_cons_zero, List.set_cons_succ, i64_w, i32_w]
                    rfl
                  refine pure_ (i := 3) (N := some 22) (v := ?_) (a' := ?_) #[true, true, true, true, false, false, false, false, false, false, false, false, false, false, false, false, false, false, false] rfl rfl (any_of HT_.out (by kernel_rfl)) (fun _ _ _ h => h) (Or.inl ⟨by rfl, ?_⟩) ?_ ?_
                  rotate_left
                  · intro w'
                    go_simp
                    with_reducible rfl
                  rotate_left
                  · simp only [Act.put, List.setIfInBounds_toArray, List.set_cons_zero, List.set_cons_succ, i64_w, i32_w]
                    rfl
                  refine pure_ (i := 4) (N := some 23) (v := ?_) (a' := ?_) #[true, true, true, true, true, false, false, false, false, false, false, false, false, false, false, false, false, false, false] rfl rfl (any_of HT_.out (by kernel_rfl)) (fun _ _ _ h => h) (Or.inl ⟨by rfl, ?_⟩) ?_ ?_
                  rotate_left
                  · intro w'
                    go_simp
                    with_reducible rfl
                  rotate_left
                  · simp only [Act.put, List.setIfInBounds_toArray, List.set_cons_zero, List.set_cons_succ, i64_w, i32_w]
                    rfl
                  refine pure_ (i := 7) (N := some 26) (v := ?_) (a' := ?_) #[true, true, true, true, true, false, false, true, false, false, false, false, false, false, false, false, false, false, false] rfl rfl (any_of HT_.out (by kernel_rfl)) (fun _ _ _ h => h) (Or.inl ⟨by rfl, ?_⟩) ?_ ?_
                  rotate_left
                  · intro w'
                    go_simp
                    with_reducible rfl
                  rotate_left
                  · simp only [Act.put, List.setIfInBounds_toArray, List.set_cons_zero, List.set_cons_succ, i64_w, i32_w]
                    rfl
                  refine pure_ (i := 8) (N := some 27) (v := ?_) (a' := ?_) #[true, true, true, true, true, false, false, true, true, false, false, false, false, false, false, false, false, false, false] rfl rfl (any_of HT_.out (by kernel_rfl)) (fun _ _ _ h => h) (Or.inl ⟨by rfl, ?_⟩) ?_ ?_
                  rotate_left
                  · intro w'
                    go_simp
                    with_reducible rfl
                  rotate_left
                  · simp only [Act.put, List.setIfInBounds_toArray, List.set_cons_zero, List.set_cons_succ, i64_w, i32_w]
                    rfl
                  refine pure_ (i := 9) (N := some 28) (v := ?_) (a' := ?_) #[true, true, true, true, true, false, false, true, true, true, false, false, false, false, false, false, false, false, false] rfl rfl (any_of HT_.out (by kernel_rfl)) (fun _ _ _ h => h) (Or.inl ⟨by rfl, ?_⟩) ?_ ?_
                  rotate_left
                  · intro w'
                    go_simp
                    with_reducible rfl
                  rotate_left
                  · simp only [Act.put, List.setIfInBounds_toArray, List.set_cons_zero, List.set_cons_succ, i64_w, i32_w]
                    rfl
                  refine pure_ (i := 12) (N := some 31) (v := ?_) (a' := ?_) #[true, true, true, true, true, false, false, true, true, true, false, false, true, false, false, false, false, false, false] rfl rfl (any_of HT_.out (by kernel_rfl)) (fun _ _ _ h => h) (Or.inl ⟨by rfl, ?_⟩) ?_ ?_
                  rotate_left
                  · intro w'
                    go_simp
                    with_reducible rfl
                  rotate_left
                  · simp only [Act.put, List.setIfInBounds_toArray, List.set_cons_zero, List.set_cons_succ, i64_w, i32_w]
                    rfl
                  refine pure_ (i := 13) (N := some 32) (v := ?_) (a' := ?_) #[true, true, true, true, true, false, false, true, true, true, false, false, true, true, false, false, false, false, false] rfl rfl (any_of HT_.out (by kernel_rfl)) (fun _ _ _ h => h) (Or.inl ⟨by rfl, ?_⟩) ?_ ?_
                  rotate_left
                  · intro w'
                    go_simp
                    with_reducible rfl
                  rotate_left
                  · simp only [Act.put, List.setIfInBounds_toArray, List.set_cons_zero, List.set_cons_succ, i64_w, i32_w]
                    rfl
                  refine pure_ (i := 14) (N := some 33) (v := ?_) (a' := ?_) #[true, true, true, true, true, false, false, true, true, true, false, false, true, true, true, false, false, false, false] rfl rfl (any_of HT_.out (by kernel_rfl)) (fun _ _ _ h => h) (Or.inl ⟨by rfl, ?_⟩) ?_ ?_
                  rotate_left
                  · intro w'
                    go_simp
                    with_reducible rfl
                  rotate_left
                  · simp only [Act.put, List.setIfInBounds_toArray, List.set_cons_zero, List.set_cons_succ, i64_w, i32_w]
                    rfl
                  refine pure_ (i := 15) (N := some 34) (v := ?_) (a' := ?_) #[true, true, true, true, true, false, false, true, true, true, false, false, true, true, true, true, false, false, false] rfl rfl (any_of HT_.out (by kernel_rfl)) (fun _ _ _ h => h) (Or.inl ⟨by rfl, ?_⟩) ?_ ?_
                  rotate_left
                  · intro w'
                    go_simp
                    with_reducible rfl
                  rotate_left
                  · simp only [Act.put, List.setIfInBounds_toArray, List.set_cons_zero, List.set_cons_succ, i64_w, i32_w]
                    rfl
                  refine take_ (i := 5) (N := some 24) (v := ?_) (a' := ?_) #[true, true, true, true, true, true, false, true, true, true, false, false, true, true, true, true, false, false, false] rfl rfl (take_ofW HT_.out HW_.out (by kernel_rfl)) (fun _ _ _ h => h) (Or.inl ⟨by rfl, ?_⟩) hHeld ?_ ?_
                  rotate_left
                  · rintro w' ⟨s0, s1, s2, s3⟩
                    go_simp
                    with_reducible rfl
                  rotate_left
                  · simp only [Act.put, List.setIfInBounds_toArray, List.set_cons_zero, List.set_cons_succ, i64_w, i32_w]
                    rfl
                  refine pure_ (i := 6) (N := some 25) (v := ?_) (a' := ?_) #[true, true, true, true, true, true, true, true, true, true, false, false, true, true, true, true, false, false, false] rfl rfl (any_of HT_.out (by kernel_rfl)) (fun _ _ _ h => h) (Or.inl ⟨by rfl, ?_⟩) ?_ ?_
                  rotate_left
                  · intro w'
                    go_simp
                    with_reducible rfl
                  rotate_left
                  · simp only [Act.put, List.setIfInBounds_toArray, List.set_cons_zero, List.set_cons_succ, i64_w, i32_w]
                    rfl
                  refine pure_ (i := 10) (N := some 29) (v := ?_) (a' := ?_) #[true, true, true, true, true, true, true, true, true, true, true, false, true, true, true, true, false, false, false] rfl rfl (any_of HT_.out (by kernel_rfl)) (fun _ _ _ h => h) (Or.inl ⟨by rfl, ?_⟩) ?_ ?_
                  rotate_left
                  · intro w'
                    go_simp
                    with_reducible rfl
                  rotate_left
                  · simp only [Act.put, List.setIfInBounds_toArray, List.set_cons_zero, List.set_cons_succ, i64_w, i32_w]
                    rfl
                  refine pure_ (i := 11) (N := some 30) (v := ?_) (a' := ?_) #[true, true, true, true, true, true, true, true, true, true, true, true, true, true, true, true, false, false, false] rfl rfl (any_of HT_.out (by kernel_rfl)) (fun _ _ _ h => h) (Or.inl ⟨by rfl, ?_⟩) ?_ ?_
                  rotate_left
                  · intro w'
                    go_simp
                    with_reducible rfl
                  rotate_left
                  · simp only [Act.put, List.setIfInBounds_toArray, List.set_cons_zero, List.set_cons_succ, i64_w, i32_w]
                    rfl
                  refine take_ (i := 16) (N := some 35) (v := ?_) (a' := ?_) #[true, true, true, true, true, true, true, true, true, true, true, true, true, true, true, true, true, false, false] rfl rfl (take_ofW HT_.out HW_.out (by kernel_rfl)) (fun _ _ _ h => h) (Or.inl ⟨by rfl, ?_⟩) hHeld ?_ ?_
                  rotate_left
                  · rintro w' ⟨s0, s1, s2, s3⟩
                    go_simp
                    with_reducible rfl
                  rotate_left
                  · simp only [Act.put, List.setIfInBounds_toArray, List.set_cons_zero, List.set_cons_succ, i64_w, i32_w]
                    rfl
                  refine pure_ (i := 17) (N := some 36) (v := ?_) (a' := ?_) #[true, true, true, true, true, true, true, true, true, true, true, true, true, true, true, true, true, true, false] rfl rfl (any_of HT_.out (by kernel_rfl)) (fun _ _ _ h => h) (Or.inl ⟨by rfl, ?_⟩) ?_ ?_
                  rotate_left
                  · intro w'
                    go_simp
                    with_reducible rfl
                  rotate_left
                  · simp only [Act.put, List.setIfInBounds_toArray, List.set_cons_zero, List.set_cons_succ, i64_w, i32_w]
                    rfl
                  refine last_ (i := 18) (N := none) #[true, true, true, true, true, true, true, true, true, true, true, true, true, true, true, true, true, true, true] rfl rfl (one_of HT_.out (by kernel_rfl)) (by decide) (fun K hK => ?_)
                  refine skip_ (w1 := ?_) (by rfl) rfl ?_ ?_
                  rotate_left
                  · go_simp
                    rfl
                  refine hK.out _ _ ?_
                  clear hK K
                  refine done_ (done_of HT_.out (by kernel_rfl)) ?_
                  try go_wp2
                  go_roundg k1
                  case measure => have := HK1.out; omega
                  case rel => exact ⟨(y133), (wrap64 (x4_1 + 1)), (by first | rfl | (simp; done) | (simp [*]; done) | kernel_rfl), H', ⟨by have := HK1.out; omega⟩, ⟨by (with_reducible repeat (first | apply Kd.R_alloc | apply Kd.R_drewN | apply Kd.R_drew)); exact HQ19.out⟩, ⟨by repeat (first | (with_reducible first | exact HB.out | apply below_alloc | apply pw_below_drewN | apply below_drew1 | refine below_set ?_ GB16.out) | exact HB.out)⟩⟩
                · rw [if_neg c15] at H
                  exact absurd H (by simp)
              · rw [if_neg c14] at H
                exact absurd H (by simp)
          · rw [if_neg c11] at H
            exact absurd H (by simp)
        · rw [if_neg c10] at H
          have c10b0 : decide (x4_1 < 100) = false := decide_eq_false c10
          clear c10
          obtain rfl := Option.some.inj H
          go_wp2
          go_ret
          exact ⟨_, by first | rfl | (simp [errW_none, errW_some] <;> rfl) | (simp [*, errW_none, errW_some] <;> rfl), by (with_reducible repeat (first | apply Kd.R_alloc | apply Kd.R_drewN | apply Kd.R_drew)); exact HO_3.out, by repeat (first | (with_reducible first | exact HB.out | apply below_alloc | apply pw_below_drewN | apply below_drew1) | exact HB.out)⟩
      · rw [if_neg c9] at H
        have c9b0 : decide (x4_1 < (l0.length : Int)) = false := decide_eq_false c9
        clear c9
        obtain rfl := Option.some.inj H
        go_wp2
        go_ret
        exact ⟨_, by first | rfl | (simp [errW_none, errW_some] <;> rfl) | (simp [*, errW_none, errW_some] <;> rfl), by (with_reducible repeat (first | apply Kd.R_alloc | apply Kd.R_drewN | apply Kd.R_drew)); exact HO_3.out, by repeat (first | (with_reducible first | exact HB.out | apply below_alloc | apply pw_below_drewN | apply below_drew1) | exact HB.out)⟩

/-! ### plan_first: function 39 -/
def plan_first.f (k : Nat) (a0 : Int) (a1 : Int) : Option (Int × Int) := (plan_of.f k a0).bind fun bt134 => (if a1 < 0 then (some (0, 1)) else (if a1 ≥ bt134.2.2.1 then (some (0, 1)) else (some (wrap64 (bt134.2.1 + (wrap64 (a1 * bt134.2.2.2))), 0))))
set_option maxHeartbeats 8000000 in
set_option maxRecDepth 100000 in
theorem plan_first.calls (k : Nat) (a0 : Int) (a1 : Int) (r1 : Int) (r2 : Int) (w : World) (h : plan_first.f k a0 a1 = some (r1, r2)) :
    Calls Try.prog 39 #[.int .i64 a0, .int .i64 a1] w fun e w' => e = .returned (.tuple #[.int .i64 r1, .int .i64 r2]) ∧ Below w.heap.size w w' := by
  have hu80 := Try.underlying80
  have HB := Aside0.mk (Below.refl w.heap.size w)
  have H : ((plan_of.f k a0).bind fun bt134 => (if a1 < 0 then (some (0, 1)) else (if a1 ≥ bt134.2.2.1 then (some (0, 1)) else (some (wrap64 (bt134.2.1 + (wrap64 (a1 * bt134.2.2.2))), 0))))) = some (r1, r2) := h
  clear h
  replace H := Option.bind_eq_some_iff.mp H
  obtain ⟨⟨t134, t135, t136, t137⟩, A30, H⟩ := H
  replace H : (if a1 < 0 then (some (0, 1)) else (if a1 ≥ t136 then (some (0, 1)) else (some (wrap64 (t135 + (wrap64 (a1 * t137))), 0)))) = some (r1, r2) := H
  have A3 := Aside0.mk A30
  clear A30
  by_cases c4 : a1 < 0
  · rw [if_pos c4] at H
    have c4b0 : decide (a1 < 0) = true := decide_eq_true c4
    clear c4
    simp only [Option.some.injEq, Prod.mk.injEq] at H
    obtain ⟨rfl, rfl⟩ := H
    go_enter Try.func39, Try.ntmps39
    go_wp2_with (first | ((with_reducible refine gate_callee (f := 42) rfl ?_); refine goesL_ (some 8) rfl rfl Try.func42 (by kernel_rfl) rfl #[.int .i64 a0] rfl (by (try simp only [List.map_toArray, List.map_cons, List.map_nil]); first | done | rfl | (simp only [List.length_drop, List.length_take]; rfl)) ?_; (with_reducible refine (plan_of.calls k a0 t134 t135 t136 t137 _ A3.out).mono ?_); rintro e w5 ⟨rfl, hb⟩; refine ⟨_, rfl, ?_⟩; have n0_ := Aside0.mk (below_step (by repeat (first | (with_reducible first | exact HB.out | apply below_alloc | apply pw_below_drewN | apply below_drew1) | exact HB.out)) hb); clear HB; have HB := n0_; clear n0_; (try clear hb); (try clear hb2); (try clear hk); (try clear hi)) | ((with_reducible refine gate_dst (N := 6) rfl ?_); refine box_event ?hg (N := 6) ?hd (cs := #[.int .i64 0, .int .i64 0, .int .i64 0, .int .i64 0]) (t := 80) ?hr ?_; (case hd => rfl); (case hg => rfl); (case hr => first | (go_simp; done) | (go_simp; rfl)); intro gb138 hg w6 hbox hb; have n0_ := Aside0.mk (below_step (by repeat (first | (with_reducible first | exact HB.out | apply below_alloc | apply pw_below_drewN | apply below_drew1) | exact HB.out)) hb); have n1_ := Aside0.mk (hbox); have n2_ := Aside0.mk ((by rw [hg]; exact (below_size (by repeat (first | (with_reducible first | exact HB.out | apply below_alloc | apply pw_below_drewN | apply below_drew1) | exact HB.out))) : w.heap.size ≤ gb138)); have n3_ := Aside0.mk ((by rw [hg]; exact (below_size (by repeat (first | (with_reducible first | exact HB.out | apply below_alloc | apply pw_below_drewN | apply below_drew1) | exact HB.out))) : w.heap.size ≤ gb138)); clear HB; have HB := n0_; have BK138 := n1_; have GW138 := n2_; have GE138 := n3_; clear n0_ n1_ n2_ n3_; clear hb hbox hg; have hcz7_0 : w6.cell? ⟨gb138, 0, none⟩ = some (.int .i64 0) := (blk_cell BK138.out 0).trans rfl; have hcz7_1 : w6.cell? ⟨gb138, 1, none⟩ = some (.int .i64 0) := (blk_cell BK138.out 1).trans rfl; have hcz7_2 : w6.cell? ⟨gb138, 2, none⟩ = some (.int .i64 0) := (blk_cell BK138.out 2).trans rfl; have hcz7_3 : w6.cell? ⟨gb138, 3, none⟩ = some (.int .i64 0) := (blk_cell BK138.out 3).trans rfl; have hfz7_0 := blk_frozen BK138.out 0; have hfz7_1 := blk_frozen BK138.out 1; have hfz7_2 := blk_frozen BK138.out 2; have hfz7_3 := blk_frozen BK138.out 3) | ((with_reducible refine gate_store (t := 80) (p := 6) rfl ?_); refine store_event (t := 80) (p := 6) (v := ?vo_w8) (w1 := ((((w6.setCell ⟨gb138, 0, none⟩ (.int .i64 t134)).setCell ⟨gb138, 1, none⟩ (.int .i64 t135)).setCell ⟨gb138, 2, none⟩ (.int .i64 t136)).setCell ⟨gb138, 3, none⟩ (.int .i64 t137))) ?hg ?ho ?hn ?hr ?_; (case ho => rfl); (case hg => rfl); (case hn => rfl); (case hr => exact pr_store_exec rfl rfl rfl (run_store_run (P := Try.prog) (o := 0) (cur := #[.int .i64 0, .int .i64 0, .int .i64 0, .int .i64 0]) 80 (.agg #[.int .i64 t134, .int .i64 t135, .int .i64 t136, .int .i64 t137]) [.int .i64 t134, .int .i64 t135, .int .i64 t136, .int .i64 t137] (show _ = some (Obj.cells #[.int .i64 0, .int .i64 0, .int .i64 0, .int .i64 0] 80 (0, 0)) from (by (with_reducible repeat (first | refine blk_drewN ?_ _ | refine blk_drew ?_ | refine blk_alloc ?_ _)); exact BK138.out)) rfl (by kernel_rfl) (show 4 ≤ 4 by decide) (by intro q_ hq_; simp only [List.mem_cons, List.not_mem_nil, or_false] at hq_; rcases hq_ with rfl | rfl | rfl | rfl <;> rfl))); intro w8 hw; have n0_ : Aside0 (w8.heap[gb138]? = some (.cells #[.int .i64 t134, .int .i64 t135, .int .i64 t136, .int .i64 t137] 80 (0, 0))) := ⟨(by rw [hw]; exact (by (with_reducible repeat (first | refine blk_drewN ?_ _ | refine blk_drew ?_ | refine blk_alloc ?_ _)); refine blk_put (cs := #[.int .i64 t134, .int .i64 t135, .int .i64 t136, .int .i64 0]) ?_ 3 _ rfl; (with_reducible repeat (first | refine blk_drewN ?_ _ | refine blk_drew ?_ | refine blk_alloc ?_ _)); refine blk_put (cs := #[.int .i64 t134, .int .i64 t135, .int .i64 0, .int .i64 0]) ?_ 2 _ rfl; (with_reducible repeat (first | refine blk_drewN ?_ _ | refine blk_drew ?_ | refine blk_alloc ?_ _)); refine blk_put (cs := #[.int .i64 t134, .int .i64 0, .int .i64 0, .int .i64 0]) ?_ 1 _ rfl; (with_reducible repeat (first | refine blk_drewN ?_ _ | refine blk_drew ?_ | refine blk_alloc ?_ _)); refine blk_put (cs := #[.int .i64 0, .int .i64 0, .int .i64 0, .int .i64 0]) ?_ 0 _ rfl; (with_reducible repeat (first | refine blk_drewN ?_ _ | refine blk_drew ?_ | refine blk_alloc ?_ _)); exact BK138.out))⟩; have n1_ : Aside0 (Below w.heap.size w w8) := ⟨(by rw [hw]; exact (by repeat (first | (with_reducible first | exact HB.out | apply below_alloc | apply pw_below_drewN | apply below_drew1 | refine below_set ?_ GE138.out) | exact HB.out)))⟩; clear hw; clear BK138; clear HB; have BK138 := n0_; have HB := n1_; clear n0_ n1_))
    go_ret2
    exact ⟨by first | rfl | (simp [errW_none, errW_some] <;> rfl) | (simp [*, errW_none, errW_some] <;> rfl), by repeat (first | (with_reducible first | exact HB.out | apply below_alloc | apply pw_below_drewN | apply below_drew1 | refine below_set ?_ GE138.out) | exact HB.out)⟩
  · rw [if_neg c4] at H
    have c4b0 : decide (a1 < 0) = false := decide_eq_false c4
    clear c4
    by_cases c9 : a1 ≥ t136
    · rw [if_pos c9] at H
      have c9b0 : decide (t136 ≤ a1) = true := decide_eq_true c9
      clear c9
      simp only [Option.some.injEq, Prod.mk.injEq] at H
      obtain ⟨rfl, rfl⟩ := H
      go_enter Try.func39, Try.ntmps39
      go_wp2_with (first | ((with_reducible refine gate_callee (f := 42) rfl ?_); refine goesL_ (some 8) rfl rfl Try.func42 (by kernel_rfl) rfl #[.int .i64 a0] rfl (by (try simp only [List.map_toArray, List.map_cons, List.map_nil]); first | done | rfl | (simp only [List.length_drop, List.length_take]; rfl)) ?_; (with_reducible refine (plan_of.calls k a0 t134 t135 t136 t137 _ A3.out).mono ?_); rintro e w10 ⟨rfl, hb⟩; refine ⟨_, rfl, ?_⟩; have n0_ := Aside0.mk (below_step (by repeat (first | (with_reducible first | exact HB.out | apply below_alloc | apply pw_below_drewN | apply below_drew1) | exact HB.out)) hb); clear HB; have HB := n0_; clear n0_; (try clear hb); (try clear hb2); (try clear hk); (try clear hi)) | ((with_reducible refine gate_dst (N := 6) rfl ?_); refine box_event ?hg (N := 6) ?hd (cs := #[.int .i64 0, .int .i64 0, .int .i64 0, .int .i64 0]) (t := 80) ?hr ?_; (case hd => rfl); (case hg => rfl); (case hr => first | (go_simp; done) | (go_simp; rfl)); intro gb138 hg w11 hbox hb; have n0_ := Aside0.mk (below_step (by repeat (first | (with_reducible first | exact HB.out | apply below_alloc | apply pw_below_drewN | apply below_drew1) | exact HB.out)) hb); have n1_ := Aside0.mk (hbox); have n2_ := Aside0.mk ((by rw [hg]; exact (below_size (by repeat (first | (with_reducible first | exact HB.out | apply below_alloc | apply pw_below_drewN | apply below_drew1) | exact HB.out))) : w.heap.size ≤ gb138)); have n3_ := Aside0.mk ((by rw [hg]; exact (below_size (by repeat (first | (with_reducible first | exact HB.out | apply below_alloc | apply pw_below_drewN | apply below_drew1) | exact HB.out))) : w.heap.size ≤ gb138)); clear HB; have HB := n0_; have BK138 := n1_; have GW138 := n2_; have GE138 := n3_; clear n0_ n1_ n2_ n3_; clear hb hbox hg; have hcz12_0 : w11.cell? ⟨gb138, 0, none⟩ = some (.int .i64 0) := (blk_cell BK138.out 0).trans rfl; have hcz12_1 : w11.cell? ⟨gb138, 1, none⟩ = some (.int .i64 0) := (blk_cell BK138.out 1).trans rfl; have hcz12_2 : w11.cell? ⟨gb138, 2, none⟩ = some (.int .i64 0) := (blk_cell BK138.out 2).trans rfl; have hcz12_3 : w11.cell? ⟨gb138, 3, none⟩ = some (.int .i64 0) := (blk_cell BK138.out 3).trans rfl; have hfz12_0 := blk_frozen BK138.out 0; have hfz12_1 := blk_frozen BK138.out 1; have hfz12_2 := blk_frozen BK138.out 2; have hfz12_3 := blk_frozen BK138.out 3) | ((with_reducible refine gate_store (t := 80) (p := 6) rfl ?_); refine store_event (t := 80) (p := 6) (v := ?vo_w13) (w1 := ((((w11.setCell ⟨gb138, 0, none⟩ (.int .i64 t134)).setCell ⟨gb138, 1, none⟩ (.int .i64 t135)).setCell ⟨gb138, 2, none⟩ (.int .i64 t136)).setCell ⟨gb138, 3, none⟩ (.int .i64 t137))) ?hg ?ho ?hn ?hr ?_; (case ho => rfl); (case hg => rfl); (case hn => rfl); (case hr => exact pr_store_exec rfl rfl rfl (run_store_run (P := Try.prog) (o := 0) (cur := #[.int .i64 0, .int .i64 0, .int .i64 0, .int .i64 0]) 80 (.agg #[.int .i64 t134, .int .i64 t135, .int .i64 t136, .int .i64 t137]) [.int .i64 t134, .int .i64 t135, .int .i64 t136, .int .i64 t137] (show _ = some (Obj.cells #[.int .i64 0, .int .i64 0, .int .i64 0, .int .i64 0] 80 (0, 0)) from (by (with_reducible repeat (first | refine blk_drewN ?_ _ | refine blk_drew ?_ | refine blk_alloc ?_ _)); exact BK138.out)) rfl (by kernel_rfl) (show 4 ≤ 4 by decide) (by intro q_ hq_; simp only [List.mem_cons, List.not_mem_nil, or_false] at hq_; rcases hq_ with rfl | rfl | rfl | rfl <;> rfl))); intro w13 hw; have n0_ : Aside0 (w13.heap[gb138]? = some (.cells #[.int .i64 t134, .int .i64 t135, .int .i64 t136, .int .i64 t137] 80 (0, 0))) := ⟨(by rw [hw]; exact (by (with_reducible repeat (first | refine blk_drewN ?_ _ | refine blk_drew ?_ | refine blk_alloc ?_ _)); refine blk_put (cs := #[.int .i64 t134, .int .i64 t135, .int .i64 t136, .int .i64 0]) ?_ 3 _ rfl; (with_reducible repeat (first | refine blk_drewN ?_ _ | refine blk_drew ?_ | refine blk_alloc ?_ _)); refine blk_put (cs := #[.int .i64 t134, .int .i64 t135, .int .i64 0, .int .i64 0]) ?_ 2 _ rfl; (with_reducible repeat (first | refine blk_drewN ?_ _ | refine blk_drew ?_ | refine blk_alloc ?_ _)); refine blk_put (cs := #[.int .i64 t134, .int .i64 0, .int .i64 0, .int .i64 0]) ?_ 1 _ rfl; (with_reducible repeat (first | refine blk_drewN ?_ _ | refine blk_drew ?_ | refine blk_alloc ?_ _)); refine blk_put (cs := #[.int .i64 0, .int .i64 0, .int .i64 0, .int .i64 0]) ?_ 0 _ rfl; (with_reducible repeat (first | refine blk_drewN ?_ _ | refine blk_drew ?_ | refine blk_alloc ?_ _)); exact BK138.out))⟩; have n1_ : Aside0 (Below w.heap.size w w13) := ⟨(by rw [hw]; exact (by repeat (first | (with_reducible first | exact HB.out | apply below_alloc | apply pw_below_drewN | apply below_drew1 | refine below_set ?_ GE138.out) | exact HB.out)))⟩; clear hw; clear BK138; clear HB; have BK138 := n0_; have HB := n1_; clear n0_ n1_; have hcz14_0 : w13.cell? ⟨gb138, 0, none⟩ = some (.int .i64 t134) := (blk_cell BK138.out 0).trans rfl; have hcz14_1 : w13.cell? ⟨gb138, 1, none⟩ = some (.int .i64 t135) := (blk_cell BK138.out 1).trans rfl; have hcz14_2 : w13.cell? ⟨gb138, 2, none⟩ = some (.int .i64 t136) := (blk_cell BK138.out 2).trans rfl; have hcz14_3 : w13.cell? ⟨gb138, 3, none⟩ = some (.int .i64 t137) := (blk_cell BK138.out 3).trans rfl; have hfz14_0 := blk_frozen BK138.out 0; have hfz14_1 := blk_frozen BK138.out 1; have hfz14_2 := blk_frozen BK138.out 2; have hfz14_3 := blk_frozen BK138.out 3))
      go_ret2
      exact ⟨by first | rfl | (simp [errW_none, errW_some] <;> rfl) | (simp [*, errW_none, errW_some] <;> rfl), by repeat (first | (with_reducible first | exact HB.out | apply below_alloc | apply pw_below_drewN | apply below_drew1 | refine below_set ?_ GE138.out) | exact HB.out)⟩
    · rw [if_neg c9] at H
      have c9b0 : decide (t136 ≤ a1) = false := decide_eq_false c9
      clear c9
      simp only [Option.some.injEq, Prod.mk.injEq] at H
      obtain ⟨rfl, rfl⟩ := H
      go_enter Try.func39, Try.ntmps39
      go_wp2_with (first | ((with_reducible refine gate_callee (f := 42) rfl ?_); refine goesL_ (some 8) rfl rfl Try.func42 (by kernel_rfl) rfl #[.int .i64 a0] rfl (by (try simp only [List.map_toArray, List.map_cons, List.map_nil]); first | done | rfl | (simp only [List.length_drop, List.length_take]; rfl)) ?_; (with_reducible refine (plan_of.calls k a0 t134 t135 t136 t137 _ A3.out).mono ?_); rintro e w15 ⟨rfl, hb⟩; refine ⟨_, rfl, ?_⟩; have n0_ := Aside0.mk (below_step (by repeat (first | (with_reducible first | exact HB.out | apply below_alloc | apply pw_below_drewN | apply below_drew1) | exact HB.out)) hb); clear HB; have HB := n0_; clear n0_; (try clear hb); (try clear hb2); (try clear hk); (try clear hi)) | ((with_reducible refine gate_dst (N := 6) rfl ?_); refine box_event ?hg (N := 6) ?hd (cs := #[.int .i64 0, .int .i64 0, .int .i64 0, .int .i64 0]) (t := 80) ?hr ?_; (case hd => rfl); (case hg => rfl); (case hr => first | (go_simp; done) | (go_simp; rfl)); intro gb138 hg w16 hbox hb; have n0_ := Aside0.mk (below_step (by repeat (first | (with_reducible first | exact HB.out | apply below_alloc | apply pw_below_drewN | apply below_drew1) | exact HB.out)) hb); have n1_ := Aside0.mk (hbox); have n2_ := Aside0.mk ((by rw [hg]; exact (below_size (by repeat (first | (with_reducible first | exact HB.out | apply below_alloc | apply pw_below_drewN | apply below_drew1) | exact HB.out))) : w.heap.size ≤ gb138)); have n3_ := Aside0.mk ((by rw [hg]; exact (below_size (by repeat (first | (with_reducible first | exact HB.out | apply below_alloc | apply pw_below_drewN | apply below_drew1) | exact HB.out))) : w.heap.size ≤ gb138)); clear HB; have HB := n0_; have BK138 := n1_; have GW138 := n2_; have GE138 := n3_; clear n0_ n1_ n2_ n3_; clear hb hbox hg; have hcz17_0 : w16.cell? ⟨gb138, 0, none⟩ = some (.int .i64 0) := (blk_cell BK138.out 0).trans rfl; have hcz17_1 : w16.cell? ⟨gb138, 1, none⟩ = some (.int .i64 0) := (blk_cell BK138.out 1).trans rfl; have hcz17_2 : w16.cell? ⟨gb138, 2, none⟩ = some (.int .i64 0) := (blk_cell BK138.out 2).trans rfl; have hcz17_3 : w16.cell? ⟨gb138, 3, none⟩ = some (.int .i64 0) := (blk_cell BK138.out 3).trans rfl; have hfz17_0 := blk_frozen BK138.out 0; have hfz17_1 := blk_frozen BK138.out 1; have hfz17_2 := blk_frozen BK138.out 2; have hfz17_3 := blk_frozen BK138.out 3) | ((with_reducible refine gate_store (t := 80) (p := 6) rfl ?_); refine store_event (t := 80) (p := 6) (v := ?vo_w18) (w1 := ((((w16.setCell ⟨gb138, 0, none⟩ (.int .i64 t134)).setCell ⟨gb138, 1, none⟩ (.int .i64 t135)).setCell ⟨gb138, 2, none⟩ (.int .i64 t136)).setCell ⟨gb138, 3, none⟩ (.int .i64 t137))) ?hg ?ho ?hn ?hr ?_; (case ho => rfl); (case hg => rfl); (case hn => rfl); (case hr => exact pr_store_exec rfl rfl rfl (run_store_run (P := Try.prog) (o := 0) (cur := #[.int .i64 0, .int .i64 0, .int .i64 0, .int .i64 0]) 80 (.agg #[.int .i64 t134, .int .i64 t135, .int .i64 t136, .int .i64 t137]) [.int .i64 t134, .int .i64 t135, .int .i64 t136, .int .i64 t137] (show _ = some (Obj.cells #[.int .i64 0, .int .i64 0, .int .i64 0, .int .i64 0] 80 (0, 0)) from (by (with_reducible repeat (first | refine blk_drewN ?_ _ | refine blk_drew ?_ | refine blk_alloc ?_ _)); exact BK138.out)) rfl (by kernel_rfl) (show 4 ≤ 4 by decide) (by intro q_ hq_; simp only [List.mem_cons, List.not_mem_nil, or_false] at hq_; rcases hq_ with rfl | rfl | rfl | rfl <;> rfl))); intro w18 hw; have n0_ : Aside0 (w18.heap[gb138]? = some (.cells #[.int .i64 t134, .int .i64 t135, .int .i64 t136, .int .i64 t137] 80 (0, 0))) := ⟨(by rw [hw]; exact (by (with_reducible repeat (first | refine blk_drewN ?_ _ | refine blk_drew ?_ | refine blk_alloc ?_ _)); refine blk_put (cs := #[.int .i64 t134, .int .i64 t135, .int .i64 t136, .int .i64 0]) ?_ 3 _ rfl; (with_reducible repeat (first | refine blk_drewN ?_ _ | refine blk_drew ?_ | refine blk_alloc ?_ _)); refine blk_put (cs := #[.int .i64 t134, .int .i64 t135, .int .i64 0, .int .i64 0]) ?_ 2 _ rfl; (with_reducible repeat (first | refine blk_drewN ?_ _ | refine blk_drew ?_ | refine blk_alloc ?_ _)); refine blk_put (cs := #[.int .i64 t134, .int .i64 0, .int .i64 0, .int .i64 0]) ?_ 1 _ rfl; (with_reducible repeat (first | refine blk_drewN ?_ _ | refine blk_drew ?_ | refine blk_alloc ?_ _)); refine blk_put (cs := #[.int .i64 0, .int .i64 0, .int .i64 0, .int .i64 0]) ?_ 0 _ rfl; (with_reducible repeat (first | refine blk_drewN ?_ _ | refine blk_drew ?_ | refine blk_alloc ?_ _)); exact BK138.out))⟩; have n1_ : Aside0 (Below w.heap.size w w18) := ⟨(by rw [hw]; exact (by repeat (first | (with_reducible first | exact HB.out | apply below_alloc | apply pw_below_drewN | apply below_drew1 | refine below_set ?_ GE138.out) | exact HB.out)))⟩; clear hw; clear BK138; clear HB; have BK138 := n0_; have HB := n1_; clear n0_ n1_; have hcz19_0 : w18.cell? ⟨gb138, 0, none⟩ = some (.int .i64 t134) := (blk_cell BK138.out 0).trans rfl; have hcz19_1 : w18.cell? ⟨gb138, 1, none⟩ = some (.int .i64 t135) := (blk_cell BK138.out 1).trans rfl; have hcz19_2 : w18.cell? ⟨gb138, 2, none⟩ = some (.int .i64 t136) := (blk_cell BK138.out 2).trans rfl; have hcz19_3 : w18.cell? ⟨gb138, 3, none⟩ = some (.int .i64 t137) := (blk_cell BK138.out 3).trans rfl; have hfz19_0 := blk_frozen BK138.out 0; have hfz19_1 := blk_frozen BK138.out 1; have hfz19_2 := blk_frozen BK138.out 2; have hfz19_3 := blk_frozen BK138.out 3))
      go_ret2
      exact ⟨by first | rfl | (simp [errW_none, errW_some] <;> rfl) | (simp [*, errW_none, errW_some] <;> rfl), by repeat (first | (with_reducible first | exact HB.out | apply below_alloc | apply pw_below_drewN | apply below_drew1 | refine below_set ?_ GE138.out) | exact HB.out)⟩

/-! ### plan_Card: function 19 -/
def plan_Card.f (k : Nat) (a0 : Int) : Option (Int × Int) := (plan_first.f k 2 a0).bind fun bt139 => (some (bt139.1, bt139.2))
set_option maxHeartbeats 8000000 in
set_option maxRecDepth 100000 in
theorem plan_Card.calls (k : Nat) (a0 : Int) (r1 : Int) (r2 : Int) (w : World) (h : plan_Card.f k a0 = some (r1, r2)) :
    Calls Try.prog 19 #[.int .i64 a0] w fun e w' => e = .returned (.tuple #[.int .i64 r1, .int .i64 r2]) ∧ Below w.heap.size w w' := by
  have HB := Aside0.mk (Below.refl w.heap.size w)
  have H : ((plan_first.f k 2 a0).bind fun bt139 => (some (bt139.1, bt139.2))) = some (r1, r2) := h
  clear h
  replace H := Option.bind_eq_some_iff.mp H
  obtain ⟨⟨t139, t140⟩, A20, H⟩ := H
  replace H : (some (t139, t140)) = some (r1, r2) := H
  have A2 := Aside0.mk A20
  clear A20
  simp only [Option.some.injEq, Prod.mk.injEq] at H
  obtain ⟨rfl, rfl⟩ := H
  go_enter Try.func19, Try.ntmps19
  go_wp2_with (first | ((with_reducible refine gate_callee (f := 39) rfl ?_); refine goesL_ (some 5) rfl rfl Try.func39 (by kernel_rfl) rfl #[.int .i64 2, .int .i64 a0] rfl (by (try simp only [List.map_toArray, List.map_cons, List.map_nil]); first | done | rfl | (simp only [List.length_drop, List.length_take]; rfl)) ?_; (with_reducible refine (plan_first.calls k 2 a0 t139 t140 _ A2.out).mono ?_); rintro e w3 ⟨rfl, hb⟩; refine ⟨_, rfl, ?_⟩; have n0_ := Aside0.mk (below_step (by repeat (first | (with_reducible first | exact HB.out | apply below_alloc | apply pw_below_drewN | apply below_drew1) | exact HB.out)) hb); clear HB; have HB := n0_; clear n0_; (try clear hb); (try clear hb2); (try clear hk); (try clear hi)))
  go_ret2
  exact ⟨by first | rfl | (simp [errW_none, errW_some] <;> rfl) | (simp [*, errW_none, errW_some] <;> rfl), by repeat (first | (with_reducible first | exact HB.out | apply below_alloc | apply pw_below_drewN | apply below_drew1) | exact HB.out)⟩

end Go.Proofs.Ytpkfdoefpmgfiaa.Print
