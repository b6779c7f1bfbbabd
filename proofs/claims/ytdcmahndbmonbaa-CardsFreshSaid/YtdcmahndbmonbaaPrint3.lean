import Derived.Test.YtdcmahndbmonbaaPrint0
namespace Go.Proofs.Ytdcmahndbmonbaa.Print
open Go.RowKit Go.Proofs.YtdcmahndbmonbaaW.PrintWords Go.Proofs.YtdcmahndbmonbaaW.PrintLast Go.Proofs.YtdcmahndbmonbaaW.PrintMore
attribute [local go_sem] max2_int min2_int max_two min_two max_three min_three max_four min_four   -- for this text's walks alone
set_option linter.unusedVariables false
set_option linter.unusedSimpArgs false

/-! ### cards_fields: function 21 -/
def cards_fields.l0 : Nat → List (S45) → Int → Option ((List (S45)))
  | 0, _, _ => none
  | k + 1, x1, x7 => if x7 < 6 then (if x1.length < 5864062014805 then (cards_fields.l0 k (x1 ++ [(⟨wrap64 (2 + (wrap64 (Int.tdiv x7 4))), wrap64 (16 * (Int.tmod x7 4)), 16⟩ : S45)]) (wrap64 (x7 + 1))) else (none)) else (some x1)
def cards_fields.f (k : Nat)  : Option ((List (S45))) := cards_fields.l0 k (([(⟨0, 0, 8⟩ : S45), (⟨0, 8, 16⟩ : S45), (⟨0, 24, 32⟩ : S45)] : List (S45))) 0
set_option maxHeartbeats 8000000 in
set_option maxRecDepth 100000 in
theorem cards_fields.calls (k : Nat)  (r : List (S45)) (w : World) (h : cards_fields.f k  = some r) :
    Calls Try.prog 21 #[] w fun e w' => ∃ v0_ : Value, e = .returned (v0_) ∧ Kd.R k45 45 w' w.heap.size (fun _ => True) v0_ r ∧ Below w.heap.size w w' := by
  have hu45 := Try.underlying45
  have HB := Aside0.mk (Below.refl w.heap.size w)
  have H : (cards_fields.l0 k (([(⟨0, 0, 8⟩ : S45), (⟨0, 8, 16⟩ : S45), (⟨0, 24, 32⟩ : S45)] : List (S45))) 0) = some r := h
  clear h
  obtain ⟨y103, hy103⟩ : ∃ y_ : List (S45), y_ = (([(⟨0, 0, 8⟩ : S45), (⟨0, 8, 16⟩ : S45), (⟨0, 24, 32⟩ : S45)] : List (S45))) := ⟨_, rfl⟩
  replace H : (cards_fields.l0 k y103 0) = some r := by first | (rw [hy103]; with_reducible exact H) | (have H2_ := (Option.bind_some _ _).symm.trans H; rw [hy103]; with_reducible exact H2_) | (have H2_ := (Option.bind_some _ _).symm.trans H; with_reducible exact H2_) | with_reducible exact H | (rw [hy103]; exact H) | exact H
  have Ny103 := Aside0.mk hy103
  clear hy103
  have H' := Aside0.mk H
  clear H
  go_enter Try.func21, Try.ntmps21
  go_wp2_with (first | ((with_reducible refine gate_dst (N := 6) rfl ?_); refine Kd.R_lit k45 _ 45 ?hg (N := 6) ?hd (xs := ([(⟨0, 0, 8⟩ : S45), (⟨0, 8, 16⟩ : S45), (⟨0, 24, 32⟩ : S45)] : List (S45))) (inner := [.int .i64 0, .int .i64 0, .int .i64 8, .int .i64 0, .int .i64 8, .int .i64 16, .int .i64 0, .int .i64 24, .int .i64 32]) (ok := fun _ => True) (okp := fun _ => True) ?hr ?hp (fun _ hk => hk) trivial (Below.refl _ _) (Nat.le_refl _) (by simp) ?_; (case hd => rfl); (case hg => rfl); (case hr => first | (go_simp; done) | (go_simp; rfl)); (case hp => exact (Reps.c3 (show Kd.M k45 _ _ _ (⟨0, 0, 8⟩ : S45) [.int .i64 0, .int .i64 0, .int .i64 8] from (k45_mkM _ _ _ (⟨0, 0, 8⟩ : S45) )) (Reps.c3 (show Kd.M k45 _ _ _ (⟨0, 8, 16⟩ : S45) [.int .i64 0, .int .i64 8, .int .i64 16] from (k45_mkM _ _ _ (⟨0, 8, 16⟩ : S45) )) (Reps.c3 (show Kd.M k45 _ _ _ (⟨0, 24, 32⟩ : S45) [.int .i64 0, .int .i64 24, .int .i64 32] from (k45_mkM _ _ _ (⟨0, 24, 32⟩ : S45) )) (Reps.none _ _))))); intro v104 w1 ho2 hb hg_ hnew_; clear hg_ hnew_; (first | rw [← Ny103.out] at ho2 | (simp only [Int.reduceToNat] at ho2; rw [← Ny103.out] at ho2)); have n0_ := Aside0.mk (Kd.R_lower ho2 (below_size (by repeat (first | (with_reducible first | exact HB.out | apply below_alloc | apply pw_below_drewN | apply below_drew1) | exact HB.out)))); have n1_ := Aside0.mk (below_step (by repeat (first | (with_reducible first | exact HB.out | apply below_alloc | apply pw_below_drewN | apply below_drew1) | exact HB.out)) hb); clear HB; have HO105 := n0_; have HB := n1_; clear n0_ n1_; clear hb ho2))
  go_loopg [1, 7] k (fun kq v1 v7 w' => ∃ (x1_1 : List (S45)) (x7_1 : Int), v7 = .int .i64 x7_1 ∧ Aside0 (cards_fields.l0 kq x1_1 x7_1 = some r) ∧ Aside0 (kq ≤ k) ∧ Aside0 (Kd.R k45 45 w' w.heap.size (fun _ => True) v1 x1_1) ∧ Aside0 (Below w.heap.size w w'))
  case atStart => exact ⟨(y103), (0), (by first | rfl | (simp; done) | (simp [*]; done) | kernel_rfl), H', ⟨Nat.le_refl _⟩, ⟨by (with_reducible repeat (first | apply Kd.R_alloc | apply Kd.R_drewN | apply Kd.R_drew)); exact HO105.out⟩, ⟨by repeat (first | (with_reducible first | exact HB.out | apply below_alloc | apply pw_below_drewN | apply below_drew1) | exact HB.out)⟩⟩
  case round =>
    clear H'
    try clear c2
    try clear p2
    obtain ⟨x1_1, x7_1, rfl, HA, HK1, HO_1, HB⟩ := hrel
    cases gk with
    | zero => exact absurd HA.out (by simp [cards_fields.l0])
    | succ k1 =>
      have H := HA.out
      clear HA
      simp only [cards_fields.l0] at H
      by_cases c3 : x7_1 < 6
      · rw [if_pos c3] at H
        have c3b0 : decide (x7_1 < 6) = true := decide_eq_true c3
        clear c3
        by_cases c4 : x1_1.length < 5864062014805
        · rw [if_pos c4] at H
          have LMc4 := Aside0.mk c4
          clear c4
          obtain ⟨y106, hy106⟩ : ∃ y_ : List (S45), y_ = (x1_1 ++ [(⟨wrap64 (2 + (wrap64 (Int.tdiv x7_1 4))), wrap64 (16 * (Int.tmod x7_1 4)), 16⟩ : S45)]) := ⟨_, rfl⟩
          replace H : (cards_fields.l0 k1 y106 (wrap64 (x7_1 + 1))) = some r := by first | (rw [hy106]; with_reducible exact H) | (have H2_ := (Option.bind_some _ _).symm.trans H; rw [hy106]; with_reducible exact H2_) | (have H2_ := (Option.bind_some _ _).symm.trans H; with_reducible exact H2_) | with_reducible exact H | (rw [hy106]; exact H) | exact H
          have Ny106 := Aside0.mk hy106
          clear hy106
          have H' := Aside0.mk H
          clear H
          go_wp2_with (first | ((with_reducible refine gate_builtin (b := .append) (xs := #[.tmp 10, .tmp 18]) rfl ?_); at_builtin; refine Kd.R_append k45 (w0 := w) w.heap.size rfl (.tmp 10) (.tmp 18) 46 45 (.agg #[(.int .i64 0), (.int .i64 0), (.int .i64 0)]) 24 rfl Try.underlying46 info45 rfl (by decide) (by omega) u1 x1_1 (⟨wrap64 (2 + (wrap64 (Int.tdiv x7_1 4))), wrap64 (16 * (Int.tmod x7_1 4)), 16⟩ : S45) [.int .i64 (wrap64 (2 + (wrap64 (Int.tdiv x7_1 4)))), .int .i64 (wrap64 (16 * (Int.tmod x7_1 4))), .int .i64 16] (fun _ => True) (fun _ => False) rfl rfl ?aP (fun _ hk => hk.elim) ?aF ?aO ?aB ?aS ?aL ?_; (case aP => exact k45_mkM _ _ _ (⟨wrap64 (2 + (wrap64 (Int.tdiv x7_1 4))), wrap64 (16 * (Int.tmod x7_1 4)), 16⟩ : S45)); (case aB => exact (by repeat (first | (with_reducible first | exact HB.out | apply below_alloc | apply pw_below_drewN | apply below_drew1) | exact HB.out))); (case aF => exact (fun _ _ => trivial)); (case aO => exact (by (with_reducible repeat (first | apply Kd.R_alloc | apply Kd.R_drewN | apply Kd.R_drew)); exact HO_1.out)); (case aS => exact (below_size (by repeat (first | (with_reducible first | exact HB.out | apply below_alloc | apply pw_below_drewN | apply below_drew1) | exact HB.out)))); (case aL => have := LMc4.out; omega); intro v107 w5 ho hb hg hat; rw [← Ny106.out] at ho; have n0_ := Aside0.mk (hb); have n1_ := Aside0.mk (ho); clear HB; clear HO_1; have HB := n0_; have HO108 := n1_; clear n0_ n1_; clear ho hb hg hat))
          go_roundg k1
          case measure => have := HK1.out; omega
          case rel => exact ⟨(y106), (wrap64 (x7_1 + 1)), (by first | rfl | (simp; done) | (simp [*]; done) | kernel_rfl), H', ⟨by have := HK1.out; omega⟩, ⟨by (with_reducible repeat (first | apply Kd.R_alloc | apply Kd.R_drewN | apply Kd.R_drew)); exact HO108.out⟩, ⟨by repeat (first | (with_reducible first | exact HB.out | apply below_alloc | apply pw_below_drewN | apply below_drew1) | exact HB.out)⟩⟩
        · rw [if_neg c4] at H
          exact absurd H (by simp)
      · rw [if_neg c3] at H
        have c3b0 : decide (x7_1 < 6) = false := decide_eq_false c3
        clear c3
        obtain rfl := Option.some.inj H
        go_wp2
        go_ret
        exact ⟨_, by first | rfl | (simp [errW_none, errW_some] <;> rfl) | (simp [*, errW_none, errW_some] <;> rfl), by (with_reducible repeat (first | apply Kd.R_alloc | apply Kd.R_drewN | apply Kd.R_drew)); exact HO_1.out, by repeat (first | (with_reducible first | exact HB.out | apply below_alloc | apply pw_below_drewN | apply below_drew1) | exact HB.out)⟩

/-! ### words_mask: function 28 -/
def words_mask.f (a0 : Int) (a1 : Int) : Option (Int) := if a0 < 0 then (some 0) else (if a1 < 1 then (some 0) else (if a1 > 64 then (some 0) else (if a0 > (wrap64 (64 - a1)) then (some 0) else (if 0 ≤ (wrap64 (64 - a1)) then (some (shr .u64 18446744073709551615 (wrap64 (64 - a1)))) else (none)))))
set_option maxHeartbeats 8000000 in
set_option maxRecDepth 100000 in
theorem words_mask.calls (a0 : Int) (a1 : Int) (r : Int) (w : World) (h : words_mask.f a0 a1 = some r) :
    Calls Try.prog 28 #[.int .i64 a0, .int .i64 a1] w fun e w' => e = .returned (.int .u64 r) ∧ Drawn0 w w' := by
  have H : (if a0 < 0 then (some 0) else (if a1 < 1 then (some 0) else (if a1 > 64 then (some 0) else (if a0 > (wrap64 (64 - a1)) then (some 0) else (if 0 ≤ (wrap64 (64 - a1)) then (some (shr .u64 18446744073709551615 (wrap64 (64 - a1)))) else (none)))))) = some r := h
  clear h
  by_cases c3 : a0 < 0
  · rw [if_pos c3] at H
    have c3b0 : decide (a0 < 0) = true := decide_eq_true c3
    clear c3
    obtain rfl := Option.some.inj H
    go_enter Try.func28, Try.ntmps28
    go_wp2
    go_ret
    exact ⟨by first | rfl | (simp; done) | (simp [*]; done), by repeat (first | exact Drawn0.refl _ | apply Drawn0.step)⟩
  · rw [if_neg c3] at H
    have c3b0 : decide (a0 < 0) = false := decide_eq_false c3
    clear c3
    by_cases c4 : a1 < 1
    · rw [if_pos c4] at H
      have c4b0 : decide (a1 < 1) = true := decide_eq_true c4
      clear c4
      obtain rfl := Option.some.inj H
      go_enter Try.func28, Try.ntmps28
      go_wp2
      go_ret
      exact ⟨by first | rfl | (simp; done) | (simp [*]; done), by repeat (first | exact Drawn0.refl _ | apply Drawn0.step)⟩
    · rw [if_neg c4] at H
      have c4b0 : decide (a1 < 1) = false := decide_eq_false c4
      clear c4
      by_cases c5 : a1 > 64
      · rw [if_pos c5] at H
        have c5b0 : decide (64 < a1) = true := decide_eq_true c5
        clear c5
        obtain rfl := Option.some.inj H
        go_enter Try.func28, Try.ntmps28
        go_wp2
        go_ret
        exact ⟨by first | rfl | (simp; done) | (simp [*]; done), by repeat (first | exact Drawn0.refl _ | apply Drawn0.step)⟩
      · rw [if_neg c5] at H
        have c5b0 : decide (64 < a1) = false := decide_eq_false c5
        clear c5
        by_cases c6 : a0 > (wrap64 (64 - a1))
        · rw [if_pos c6] at H
          have c6b0 : decide ((wrap64 (64 - a1)) < a0) = true := decide_eq_true c6
          clear c6
          obtain rfl := Option.some.inj H
          go_enter Try.func28, Try.ntmps28
          go_wp2
          go_ret
          exact ⟨by first | rfl | (simp; done) | (simp [*]; done), by repeat (first | exact Drawn0.refl _ | apply Drawn0.step)⟩
        · rw [if_neg c6] at H
          have c6b0 : decide ((wrap64 (64 - a1)) < a0) = false := decide_eq_false c6
          clear c6
          obtain ⟨ji7, hji7⟩ : ∃ j_ : Int, (wrap64 (64 - a1)) = j_ := ⟨_, rfl⟩
          replace H : (if 0 ≤ (ji7) then (some (shr .u64 18446744073709551615 (ji7))) else (none)) = some r := by first | (rw [hji7] at H; exact H) | (simp only [hji7] at H ⊢; exact H)
          (try rw [hji7] at c6b0)
          have hji7w : (IntKind.i64.wrap (64 - a1)) = ji7 := (i64_w _).trans hji7
          by_cases c8 : 0 ≤ (ji7)
          · rw [if_pos c8] at H
            have c8b0 := eq_true c8
            have c8b1 : decide (0 ≤ (ji7)) = true := decide_eq_true c8
            clear c8
            obtain ⟨ji9, hji9⟩ : ∃ j_ : Int, (shr .u64 18446744073709551615 (ji7)) = j_ := ⟨_, rfl⟩
            replace H : (some ji9) = some r := by first | (rw [hji9] at H; exact H) | (simp only [hji9] at H ⊢; exact H)
            have hji9_ : (18446744073709551615 / 2 ^ min (ji7).toNat 64) = ji9 := hji9
            have hji9z : (ji7) ≤ 64 → (18446744073709551615 / 2 ^ (ji7).toNat) = ji9 := shr_small hji9
            obtain rfl := Option.some.inj H
            go_enter Try.func28, Try.ntmps28
            go_wp2
            go_ret
            exact ⟨by first | rfl | (simp; done) | (simp only [← hji7, ← hji9] <;> (first | rfl | simp)) | (simp [*]; done), by repeat (first | exact Drawn0.refl _ | apply Drawn0.step)⟩
          · rw [if_neg c8] at H
            exact absurd H (by simp)

end Go.Proofs.Ytdcmahndbmonbaa.Print
