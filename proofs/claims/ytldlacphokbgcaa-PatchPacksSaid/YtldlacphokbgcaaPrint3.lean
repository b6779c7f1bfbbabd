import Derived.Test.YtldlacphokbgcaaPrint0
namespace Go.Proofs.Ytldlacphokbgcaa.Print
open Go.RowKit Go.Proofs.YtldlacphokbgcaaW.PrintWords Go.Proofs.YtldlacphokbgcaaW.PrintLast Go.Proofs.YtldlacphokbgcaaW.PrintMore
attribute [local go_sem] max2_int min2_int max_two min_two max_three min_three max_four min_four   -- for this text's walks alone
set_option linter.unusedVariables false
set_option linter.unusedSimpArgs false

/-! ### patch_Of: function 15 -/
def patch_Of.l0 : Nat → List Int → List (S31) → List Int → Int → Int → Option ((List (S31)))
  | 0, _, _, _, _, _ => none
  | k + 1, x1, x5, x14, x15, x16 => if x16 < x15 then (if 0 ≤ x16 then (if x16 < (x14.length : Int) then (if x16 < (x1.length : Int) then (if (rd x1 x16) = (rd x14 x16) then (patch_Of.l0 k x1 x5 x14 x15 (wrap64 (x16 + 1))) else (if x5.length < 8796093022208 then (patch_Of.l0 k x1 (x5 ++ [(⟨x16, rd x1 x16⟩ : S31)]) x14 x15 (wrap64 (x16 + 1))) else (none))) else (none)) else (none)) else (none)) else (some x5)
def patch_Of.f (k : Nat) (l0 : List Int) (l1 : List Int) : Option ((List (S31))) := if 0 ≤ (mn (l0.length : Int) (l1.length : Int)) then (if (mn (l0.length : Int) (l1.length : Int)) ≤ (l0.length : Int) then ((some (l0.take ((mn (l0.length : Int) (l1.length : Int)) : Int).toNat : List Int)).bind fun y131 => (patch_Of.l0 k l1 ([] : List (S31)) y131 (y131.length : Int) 0)) else (none)) else (none)
theorem patch_Of.mono_l : ∀ k, (∀ y0 y1 y2 y3 y4, LeO (patch_Of.l0 k y0 y1 y2 y3 y4) (patch_Of.l0 (k + 1) y0 y1 y2 y3 y4))
  | 0 => fun _ _ _ _ _ r h => by simp [patch_Of.l0] at h
  | k + 1 => by
    have ih0 := patch_Of.mono_l k
    · intro y0 y1 y2 y3 y4
      unfold patch_Of.l0
      repeat' first
      | (with_reducible exact ih0 _ _ _ _ _)
      | (with_reducible exact LeO.refl _)
      | (with_reducible exact LeO.none _)
      | (with_reducible refine LeO.ite ?_ ?_)
      | (with_reducible refine LeO.bind ?_ (fun _ => ?_))
      | exact ih0 _ _ _ _ _
      | exact LeO.none _
      | refine LeO.ite ?_ ?_
      | refine LeO.bind ?_ (fun _ => ?_)
theorem patch_Of.mono : ∀ a0 a1 k, LeO (patch_Of.f k a0 a1) (patch_Of.f (k + 1) a0 a1) := by
  intro a0 a1 k
  have ih0 := patch_Of.mono_l k
  unfold patch_Of.f
  repeat' first
      | (with_reducible exact ih0 _ _ _ _ _)
      | (with_reducible exact LeO.refl _)
      | (with_reducible exact LeO.none _)
      | (with_reducible refine LeO.ite ?_ ?_)
      | (with_reducible refine LeO.bind ?_ (fun _ => ?_))
      | exact ih0 _ _ _ _ _
      | exact LeO.none _
      | refine LeO.ite ?_ ?_
      | refine LeO.bind ?_ (fun _ => ?_)
set_option maxHeartbeats 8000000 in
set_option maxRecDepth 100000 in
theorem patch_Of.calls (k : Nat) (A0 : Option Addr) (c0 : Nat) (l0 : List Int) (A1 : Option Addr) (c1 : Nat) (l1 : List Int) (r : List (S31)) (w : World) (hr0 : Kd.C (Kd.int .u64) w A0 l0.length l0) (hc0 : l0.length ≤ c0) (hr1 : Kd.C (Kd.int .u64) w A1 l1.length l1) (hc1 : l1.length ≤ c1) (h : patch_Of.f k l0 l1 = some r) :
    Calls Try.prog 15 #[.slice A0 l0.length c0, .slice A1 l1.length c1] w fun e w' => ∃ v0_ : Value, e = .returned (v0_) ∧ Kd.R k31 31 w' w.heap.size (fun _ => True) v0_ r ∧ Below w.heap.size w w' := by
  have hu31 := Try.underlying31
  have HR0 := Aside0.mk hr0
  have HC0 := Aside0.mk hc0
  clear hr0 hc0
  have HR1 := Aside0.mk hr1
  have HC1 := Aside0.mk hc1
  clear hr1 hc1
  have HB := Aside0.mk (Below.refl w.heap.size w)
  have H : (if 0 ≤ (mn (l0.length : Int) (l1.length : Int)) then (if (mn (l0.length : Int) (l1.length : Int)) ≤ (l0.length : Int) then ((some (l0.take ((mn (l0.length : Int) (l1.length : Int)) : Int).toNat : List Int)).bind fun y131 => (patch_Of.l0 k l1 ([] : List (S31)) y131 (y131.length : Int) 0)) else (none)) else (none)) = some r := h
  clear h
  obtain ⟨ji3, hji3⟩ : ∃ j_ : Int, (mn (l0.length : Int) (l1.length : Int)) = j_ := ⟨_, rfl⟩
  replace H : (if 0 ≤ (ji3) then (if (ji3) ≤ (l0.length : Int) then ((some (l0.take ((ji3) : Int).toNat : List Int)).bind fun y131 => (patch_Of.l0 k l1 ([] : List (S31)) y131 (y131.length : Int) 0)) else (none)) else (none)) = some r := by first | (rw [hji3] at H; exact H) | (simp only [hji3] at H ⊢; exact H)
  (try (have hji3l : 0 ≤ ji3 := by (rw [← hji3]; unfold mn; (repeat' split) <;> omega)))
  (try (have hji3m : 0 ≤ ji3 := by omega))
  (try (have hji3x : max ji3 0 = ji3 := by omega))
  have hji3_ : (if (l1.length : Int) < (l0.length : Int) then (l1.length : Int) else (l0.length : Int)) = ji3 := hji3
  (try (have hji3n := hji3_; simp only [Int.ofNat_lt] at hji3n))
  by_cases c4 : 0 ≤ (ji3)
  · rw [if_pos c4] at H
    have c4b0 := eq_true c4
    have c4b1 : decide (0 ≤ (ji3)) = true := decide_eq_true c4
    clear c4
    by_cases c5 : (ji3) ≤ (l0.length : Int)
    · rw [if_pos c5] at H
      have c5b0 := eq_true c5
      have c5b1 : decide ((ji3) ≤ (l0.length : Int)) = true := decide_eq_true c5
      clear c5
      obtain ⟨y131, hy131⟩ : ∃ y_ : List Int, y_ = (l0.take ((ji3) : Int).toNat) := ⟨_, rfl⟩
      replace H : (patch_Of.l0 k l1 ([] : List (S31)) y131 (y131.length : Int) 0) = some r := by first | (rw [hy131]; with_reducible exact H) | (have H2_ := (Option.bind_some _ _).symm.trans H; rw [hy131]; with_reducible exact H2_) | (have H2_ := (Option.bind_some _ _).symm.trans H; with_reducible exact H2_) | with_reducible exact H | (rw [hy131]; exact H) | exact H
      have Ny131 := Aside0.mk hy131
      clear hy131
      have H' := Aside0.mk H
      clear H
      have q6 : ((ji3) : Int) ≤ ((l0.length : Int) : Int) := of_decide_eq_true (by first | (with_reducible assumption) | assumption)
      obtain ⟨i06, hi06, _, hsz6, _⟩ := info_parts info29
      have hroom6 : l0.length ≤ c0 := HC0.out
      have hC6 : Kd.C (Kd.int .u64) _ A0 l0.length l0 := HR0.out
      have hcut6 := cut_to (P := Try.prog) 23 29 .i64 Try.underlying23 hi06 A0 l0.length c0 (ji3) (of_decide_eq_true (by first | (with_reducible assumption) | assumption)) q6 hroom6
      have hr6 := Kd.C_take (m := ((ji3) : Int).toNat) hC6 (by omega)
      have hy6 : y131.length = ((ji3) : Int).toNat := (by rw [Ny131.out, List.length_take]; omega)
      rw [← Ny131.out] at hr6
      rw [← hy6] at hcut6
      have HR134 := Aside0.mk hr6
      have HC134 := Aside0.mk (show y131.length ≤ c0 from by omega)
      clear hr6 hC6 hroom6 hi06 hsz6
      have KY6 := Aside0.mk hy6
      clear hy6
      replace q6 := eq_true q6
      go_enter Try.func15, Try.ntmps15
      go_wp2
      go_loopg [5, 16] k (fun kq v5 v16 w' => ∃ (x5_1 : List (S31)) (x16_1 : Int), v16 = .int .i64 x16_1 ∧ Aside0 (patch_Of.l0 kq l1 x5_1 y131 (y131.length : Int) x16_1 = some r) ∧ Aside0 (kq ≤ k) ∧ Aside0 (Kd.R k31 31 w' w.heap.size (fun _ => True) v5 x5_1) ∧ Aside0 (Below w.heap.size w w'))
      case atStart => exact ⟨(([] : List (S31))), (0), (by first | rfl | (simp; done) | (simp [*]; done) | kernel_rfl), H', ⟨Nat.le_refl _⟩, ⟨by first | exact Kd.R_nil _ _ _ _ _ | exact Kd.N_nil _ _ _ _ _ | exact Kd.V_nil _ _ _ _ _ | exact Kd.Q_nil _ _ _ _ _ | exact Kd.S_nil _ _ _ _ _⟩, ⟨by repeat (first | (with_reducible first | exact HB.out | apply below_alloc | apply pw_below_drewN | apply below_drew1) | exact HB.out)⟩⟩
      case round =>
        clear H'
        try clear c1
        try clear p2
        try clear c4
        try clear c4b0
        try clear c4b1
        try clear c5
        try clear c5b0
        try clear c5b1
        try clear q6
        try clear q6
        obtain ⟨x5_1, x16_1, rfl, HA, HK1, HO_5, HB⟩ := hrel
        cases gk with
        | zero => exact absurd HA.out (by simp [patch_Of.l0])
        | succ k1 =>
          have H := HA.out
          clear HA
          simp only [patch_Of.l0] at H
          by_cases c7 : x16_1 < (y131.length : Int)
          · rw [if_pos c7] at H
            have c7b0 : decide (x16_1 < (y131.length : Int)) = true := decide_eq_true c7
            clear c7
            by_cases c8 : 0 ≤ x16_1
            · rw [if_pos c8] at H
              have c8b0 : decide (0 ≤ x16_1) = true := decide_eq_true c8
              clear c8
              by_cases c9 : x16_1 < (y131.length : Int)
              · rw [if_pos c9] at H
                have c9b0 : decide (x16_1 < (y131.length : Int)) = true := decide_eq_true c9
                clear c9
                by_cases c10 : x16_1 < (l1.length : Int)
                · rw [if_pos c10] at H
                  have c10b0 : decide (x16_1 < (l1.length : Int)) = true := decide_eq_true c10
                  clear c10
                  by_cases c11 : (rd l1 x16_1) = (rd y131 x16_1)
                  · rw [if_pos c11] at H
                    have c11b0 : ((rd l1 x16_1) == (rd y131 x16_1)) = true := beq_iff_eq.mpr c11
                    have c11b1 : ((rd l1 x16_1) != (rd y131 x16_1)) = false := bne_eq_false_iff_eq.mpr c11
                    clear c11
                    have H' := Aside0.mk H
                    clear H
                    have p135 : 0 ≤ (x16_1 : Int) := of_decide_eq_true (by first | (with_reducible assumption) | assumption)
                    have q135 : x16_1 < (y131.length : Int) := of_decide_eq_true (by first | (with_reducible assumption) | assumption)
                    obtain ⟨ad135, e135, hx135_0⟩ := Kd.at_int HR134.out x16_1 p135 q135
                    cases e135
                    replace hx135_0 := (HB.out.cell (World.block_lt_of_cell? w _ hx135_0)).trans hx135_0
                    replace p135 := eq_true p135
                    replace q135 := eq_true q135
                    have p136 : 0 ≤ (x16_1 : Int) := of_decide_eq_true (by first | (with_reducible assumption) | assumption)
                    have q136 : x16_1 < (l1.length : Int) := of_decide_eq_true (by first | (with_reducible assumption) | assumption)
                    obtain ⟨ad136, e136, hx136_0⟩ := Kd.at_int HR1.out x16_1 p136 q136
                    cases e136
                    replace hx136_0 := (HB.out.cell (World.block_lt_of_cell? w _ hx136_0)).trans hx136_0
                    replace p136 := eq_true p136
                    replace q136 := eq_true q136
                    go_wp2
                    go_roundg k1
                    case measure => have := HK1.out; omega
                    case rel => exact ⟨(x5_1), (wrap64 (x16_1 + 1)), (by first | rfl | (simp; done) | (simp [*]; done) | kernel_rfl), H', ⟨by have := HK1.out; omega⟩, ⟨by (with_reducible repeat (first | apply Kd.R_alloc | apply Kd.R_drewN | apply Kd.R_drew)); exact HO_5.out⟩, ⟨by repeat (first | (with_reducible first | exact HB.out | apply below_alloc | apply pw_below_drewN | apply below_drew1) | exact HB.out)⟩⟩
                  · rw [if_neg c11] at H
                    have c11b0 : ((rd l1 x16_1) == (rd y131 x16_1)) = false := beq_eq_false_iff_ne.mpr c11
                    have c11b1 : ((rd l1 x16_1) != (rd y131 x16_1)) = true := bne_iff_ne.mpr c11
                    by_cases c12 : x5_1.length < 8796093022208
                    · rw [if_pos c12] at H
                      have LMc12 := Aside0.mk c12
                      clear c12
                      obtain ⟨y138, hy138⟩ : ∃ y_ : List (S31), y_ = (x5_1 ++ [(⟨x16_1, rd l1 x16_1⟩ : S31)]) := ⟨_, rfl⟩
                      replace H : (patch_Of.l0 k1 l1 y138 y131 (y131.length : Int) (wrap64 (x16_1 + 1))) = some r := by first | (rw [hy138]; with_reducible exact H) | (have H2_ := (Option.bind_some _ _).symm.trans H; rw [hy138]; with_reducible exact H2_) | (have H2_ := (Option.bind_some _ _).symm.trans H; with_reducible exact H2_) | with_reducible exact H | (rw [hy138]; exact H) | exact H
                      have Ny138 := Aside0.mk hy138
                      clear hy138
                      have H' := Aside0.mk H
                      clear H
                      have p135 : 0 ≤ (x16_1 : Int) := of_decide_eq_true (by first | (with_reducible assumption) | assumption)
                      have q135 : x16_1 < (y131.length : Int) := of_decide_eq_true (by first | (with_reducible assumption) | assumption)
                      obtain ⟨ad135, e135, hx135_0⟩ := Kd.at_int HR134.out x16_1 p135 q135
                      cases e135
                      replace hx135_0 := (HB.out.cell (World.block_lt_of_cell? w _ hx135_0)).trans hx135_0
                      replace p135 := eq_true p135
                      replace q135 := eq_true q135
                      have p136 : 0 ≤ (x16_1 : Int) := of_decide_eq_true (by first | (with_reducible assumption) | assumption)
                      have q136 : x16_1 < (l1.length : Int) := of_decide_eq_true (by first | (with_reducible assumption) | assumption)
                      obtain ⟨ad136, e136, hx136_0⟩ := Kd.at_int HR1.out x16_1 p136 q136
                      cases e136
                      replace hx136_0 := (HB.out.cell (World.block_lt_of_cell? w _ hx136_0)).trans hx136_0
                      replace p136 := eq_true p136
                      replace q136 := eq_true q136
                      have p137 : 0 ≤ (x16_1 : Int) := of_decide_eq_true (by first | (with_reducible assumption) | assumption)
                      have q137 : x16_1 < (l1.length : Int) := of_decide_eq_true (by first | (with_reducible assumption) | assumption)
                      obtain ⟨ad137, e137, hx137_0⟩ := Kd.at_int HR1.out x16_1 p137 q137
                      obtain rfl : ad136 = ad137 := (by injection e137)
                      replace hx137_0 := (HB.out.cell (World.block_lt_of_cell? w _ hx137_0)).trans hx137_0
                      replace p137 := eq_true p137
                      replace q137 := eq_true q137
                      go_wp2_with (first | ((with_reducible refine gate_builtin (b := .append) (xs := #[.tmp 27, .tmp 34]) rfl ?_); at_builtin; refine Kd.R_append k31 (w0 := w) w.heap.size rfl (.tmp 27) (.tmp 34) 22 31 (.agg #[(.int .i64 0), (.int .u64 0)]) 16 rfl Try.underlying22 info31 rfl (by decide) (by omega) u5 x5_1 (⟨x16_1, rd l1 x16_1⟩ : S31) [.int .i64 x16_1, .int .u64 (rd l1 x16_1)] (fun _ => True) (fun _ => False) rfl rfl ?aP (fun _ hk => hk.elim) ?aF ?aO ?aB ?aS ?aL ?_; (case aP => exact k31_mkM _ _ _ (⟨x16_1, rd l1 x16_1⟩ : S31)); (case aB => exact (by repeat (first | (with_reducible first | exact HB.out | apply below_alloc | apply pw_below_drewN | apply below_drew1) | exact HB.out))); (case aF => exact (fun _ _ => trivial)); (case aO => exact (by (with_reducible repeat (first | apply Kd.R_alloc | apply Kd.R_drewN | apply Kd.R_drew)); exact HO_5.out)); (case aS => exact (below_size (by repeat (first | (with_reducible first | exact HB.out | apply below_alloc | apply pw_below_drewN | apply below_drew1) | exact HB.out)))); (case aL => have := LMc12.out; omega); intro v139 w13 ho hb hg hat; rw [← Ny138.out] at ho; have n0_ := Aside0.mk (hb); have n1_ := Aside0.mk (ho); clear HB; clear HO_5; have HB := n0_; have HO140 := n1_; clear n0_ n1_; clear ho hb hg hat))
                      go_roundg k1
                      case measure => have := HK1.out; omega
                      case rel => exact ⟨(y138), (wrap64 (x16_1 + 1)), (by first | rfl | (simp; done) | (simp [*]; done) | kernel_rfl), H', ⟨by have := HK1.out; omega⟩, ⟨by (with_reducible repeat (first | apply Kd.R_alloc | apply Kd.R_drewN | apply Kd.R_drew)); exact HO140.out⟩, ⟨by repeat (first | (with_reducible first | exact HB.out | apply below_alloc | apply pw_below_drewN | apply below_drew1) | exact HB.out)⟩⟩
                    · rw [if_neg c12] at H
                      exact absurd H (by simp)
                · rw [if_neg c10] at H
                  exact absurd H (by simp)
              · rw [if_neg c9] at H
                exact absurd H (by simp)
            · rw [if_neg c8] at H
              exact absurd H (by simp)
          · rw [if_neg c7] at H
            have c7b0 : decide (x16_1 < (y131.length : Int)) = false := decide_eq_false c7
            clear c7
            obtain rfl := Option.some.inj H
            go_wp2
            go_ret
            exact ⟨_, by first | rfl | (simp [errW_none, errW_some] <;> rfl) | (simp only [← hji3]; first | rfl | (simp [errW_none, errW_some] <;> rfl)) | (simp [*, errW_none, errW_some] <;> rfl), by (with_reducible repeat (first | apply Kd.R_alloc | apply Kd.R_drewN | apply Kd.R_drew)); exact HO_5.out, by repeat (first | (with_reducible first | exact HB.out | apply below_alloc | apply pw_below_drewN | apply below_drew1) | exact HB.out)⟩
    · rw [if_neg c5] at H
      exact absurd H (by simp)
  · rw [if_neg c4] at H
    exact absurd H (by simp)

end Go.Proofs.Ytldlacphokbgcaa.Print
