import Derived.Test.YtkbhilhefnahpaaPrint0
import Derived.Test.YtkbhilhefnahpaaPrint2
namespace Go.Proofs.Ytkbhilhefnahpaa.Print
open Go.RowKit Go.Proofs.YtkbhilhefnahpaaW.PrintWords Go.Proofs.YtkbhilhefnahpaaW.PrintLast Go.Proofs.YtkbhilhefnahpaaW.PrintMore
attribute [local go_sem] max2_int min2_int max_two min_two max_three min_three max_four min_four   -- for this text's walks alone
set_option linter.unusedVariables false
set_option linter.unusedSimpArgs false

/-! ### escritoirelaw08_early: function 17 -/
/-! ### escritoireref01_Same: function 23 -/
/-! ### plan_Card: function 54 -/
def plan_Card.f (k : Nat) (a0 : Int) : Option (Int × Int) := (plan_first.f k 2 a0).bind fun bt161 => (some (bt161.1, bt161.2))
set_option maxHeartbeats 8000000 in
set_option maxRecDepth 100000 in
theorem plan_Card.calls (k : Nat) (a0 : Int) (r1 : Int) (r2 : Int) (w : World) (h : plan_Card.f k a0 = some (r1, r2)) :
    Calls Try.prog 54 #[.int .i64 a0] w fun e w' => e = .returned (.tuple #[.int .i64 r1, .int .i64 r2]) ∧ Below w.heap.size w w' := by
  have HB := Aside0.mk (Below.refl w.heap.size w)
  have H : ((plan_first.f k 2 a0).bind fun bt161 => (some (bt161.1, bt161.2))) = some (r1, r2) := h
  clear h
  replace H := Option.bind_eq_some_iff.mp H
  obtain ⟨⟨t161, t162⟩, A20, H⟩ := H
  replace H : (some (t161, t162)) = some (r1, r2) := H
  have A2 := Aside0.mk A20
  clear A20
  simp only [Option.some.injEq, Prod.mk.injEq] at H
  obtain ⟨rfl, rfl⟩ := H
  go_enter Try.func54, Try.ntmps54
  go_wp2_with (first | ((with_reducible refine gate_callee (f := 63) rfl ?_); refine goesL_ (some 5) rfl rfl Try.func63 (by kernel_rfl) rfl #[.int .i64 2, .int .i64 a0] rfl (by (try simp only [List.map_toArray, List.map_cons, List.map_nil]); first | done | rfl | (simp only [List.length_drop, List.length_take]; rfl)) ?_; (with_reducible refine (plan_first.calls k 2 a0 t161 t162 _ A2.out).mono ?_); rintro e w3 ⟨rfl, hb⟩; refine ⟨_, rfl, ?_⟩; have n0_ := Aside0.mk (below_step (by repeat (first | (with_reducible first | exact HB.out | apply below_alloc | apply pw_below_drewN | apply below_drew1) | exact HB.out)) hb); clear HB; have HB := n0_; clear n0_; (try clear hb); (try clear hb2); (try clear hk); (try clear hi)))
  go_ret2
  exact ⟨by first | rfl | (simp [errW_none, errW_some] <;> rfl) | (simp [*, errW_none, errW_some] <;> rfl), by repeat (first | (with_reducible first | exact HB.out | apply below_alloc | apply pw_below_drewN | apply below_drew1) | exact HB.out)⟩

/-! ### cards_fields: function 70 -/
def cards_fields.l0 : Nat → List (S102) → Int → Option ((List (S102)))
  | 0, _, _ => none
  | k + 1, x1, x7 => if x7 < 6 then (if x1.length < 5864062014805 then (cards_fields.l0 k (x1 ++ [(⟨wrap64 (2 + (wrap64 (Int.tdiv x7 4))), wrap64 (16 * (Int.tmod x7 4)), 16⟩ : S102)]) (wrap64 (x7 + 1))) else (none)) else (some x1)
def cards_fields.f (k : Nat)  : Option ((List (S102))) := cards_fields.l0 k (([(⟨0, 0, 8⟩ : S102), (⟨0, 8, 16⟩ : S102), (⟨0, 24, 32⟩ : S102)] : List (S102))) 0
theorem cards_fields.mono_l : ∀ k, (∀ y0 y1, LeO (cards_fields.l0 k y0 y1) (cards_fields.l0 (k + 1) y0 y1))
  | 0 => fun _ _ r h => by simp [cards_fields.l0] at h
  | k + 1 => by
    have ih0 := cards_fields.mono_l k
    · intro y0 y1
      unfold cards_fields.l0
      repeat' first
      | (with_reducible exact ih0 _ _)
      | (with_reducible exact LeO.refl _)
      | (with_reducible exact LeO.none _)
      | (with_reducible refine LeO.ite ?_ ?_)
      | (with_reducible refine LeO.bind ?_ (fun _ => ?_))
      | exact ih0 _ _
      | exact LeO.none _
      | refine LeO.ite ?_ ?_
      | refine LeO.bind ?_ (fun _ => ?_)
theorem cards_fields.mono : ∀ k, LeO (cards_fields.f k ) (cards_fields.f (k + 1) ) := by
  intro  k
  have ih0 := cards_fields.mono_l k
  unfold cards_fields.f
  repeat' first
      | (with_reducible exact ih0 _ _)
      | (with_reducible exact LeO.refl _)
      | (with_reducible exact LeO.none _)
      | (with_reducible refine LeO.ite ?_ ?_)
      | (with_reducible refine LeO.bind ?_ (fun _ => ?_))
      | exact ih0 _ _
      | exact LeO.none _
      | refine LeO.ite ?_ ?_
      | refine LeO.bind ?_ (fun _ => ?_)
set_option maxHeartbeats 8000000 in
set_option maxRecDepth 100000 in
theorem cards_fields.calls (k : Nat)  (r : List (S102)) (w : World) (h : cards_fields.f k  = some r) :
    Calls Try.prog 70 #[] w fun e w' => ∃ v0_ : Value, e = .returned (v0_) ∧ Kd.R k102 102 w' w.heap.size (fun _ => True) v0_ r ∧ Below w.heap.size w w' := by
  have hu102 := Try.underlying102
  have HB := Aside0.mk (Below.refl w.heap.size w)
  have H : (cards_fields.l0 k (([(⟨0, 0, 8⟩ : S102), (⟨0, 8, 16⟩ : S102), (⟨0, 24, 32⟩ : S102)] : List (S102))) 0) = some r := h
  clear h
  obtain ⟨y163, hy163⟩ : ∃ y_ : List (S102), y_ = (([(⟨0, 0, 8⟩ : S102), (⟨0, 8, 16⟩ : S102), (⟨0, 24, 32⟩ : S102)] : List (S102))) := ⟨_, rfl⟩
  replace H : (cards_fields.l0 k y163 0) = some r := by first | (rw [hy163]; with_reducible exact H) | (have H2_ := (Option.bind_some _ _).symm.trans H; rw [hy163]; with_reducible exact H2_) | (have H2_ := (Option.bind_some _ _).symm.trans H; with_reducible exact H2_) | with_reducible exact H | (rw [hy163]; exact H) | exact H
  have Ny163 := Aside0.mk hy163
  clear hy163
  have H' := Aside0.mk H
  clear H
  go_enter Try.func70, Try.ntmps70
  go_wp2_with (first | ((with_reducible refine gate_dst (N := 6) rfl ?_); refine Kd.R_lit k102 _ 102 ?hg (N := 6) ?hd (xs := ([(⟨0, 0, 8⟩ : S102), (⟨0, 8, 16⟩ : S102), (⟨0, 24, 32⟩ : S102)] : List (S102))) (inner := [.int .i64 0, .int .i64 0, .int .i64 8, .int .i64 0, .int .i64 8, .int .i64 16, .int .i64 0, .int .i64 24, .int .i64 32]) (ok := fun _ => True) (okp := fun _ => True) ?hr ?hp (fun _ hk => hk) trivial (Below.refl _ _) (Nat.le_refl _) (by simp) ?_; (case hd => rfl); (case hg => rfl); (case hr => first | (go_simp; done) | (go_simp; rfl)); (case hp => exact (Reps.c3 (show Kd.M k102 _ _ _ (⟨0, 0, 8⟩ : S102) [.int .i64 0, .int .i64 0, .int .i64 8] from (k102_mkM _ _ _ (⟨0, 0, 8⟩ : S102) )) (Reps.c3 (show Kd.M k102 _ _ _ (⟨0, 8, 16⟩ : S102) [.int .i64 0, .int .i64 8, .int .i64 16] from (k102_mkM _ _ _ (⟨0, 8, 16⟩ : S102) )) (Reps.c3 (show Kd.M k102 _ _ _ (⟨0, 24, 32⟩ : S102) [.int .i64 0, .int .i64 24, .int .i64 32] from (k102_mkM _ _ _ (⟨0, 24, 32⟩ : S102) )) (Reps.none _ _))))); intro v164 w1 ho2 hb hg_ hnew_; clear hg_ hnew_; (first | rw [← Ny163.out] at ho2 | (simp only [Int.reduceToNat] at ho2; rw [← Ny163.out] at ho2)); have n0_ := Aside0.mk (Kd.R_lower ho2 (below_size (by repeat (first | (with_reducible first | exact HB.out | apply below_alloc | apply pw_below_drewN | apply below_drew1) | exact HB.out)))); have n1_ := Aside0.mk (below_step (by repeat (first | (with_reducible first | exact HB.out | apply below_alloc | apply pw_below_drewN | apply below_drew1) | exact HB.out)) hb); clear HB; have HO165 := n0_; have HB := n1_; clear n0_ n1_; clear hb ho2))
  go_loopg [1, 7] k (fun kq v1 v7 w' => ∃ (x1_1 : List (S102)) (x7_1 : Int), v7 = .int .i64 x7_1 ∧ Aside0 (cards_fields.l0 kq x1_1 x7_1 = some r) ∧ Aside0 (kq ≤ k) ∧ Aside0 (Kd.R k102 102 w' w.heap.size (fun _ => True) v1 x1_1) ∧ Aside0 (Below w.heap.size w w'))
  case atStart => exact ⟨(y163), (0), (by first | rfl | (simp; done) | (simp [*]; done) | kernel_rfl), H', ⟨Nat.le_refl _⟩, ⟨by (with_reducible repeat (first | apply Kd.R_alloc | apply Kd.R_drewN | apply Kd.R_drew)); exact HO165.out⟩, ⟨by repeat (first | (with_reducible first | exact HB.out | apply below_alloc | apply pw_below_drewN | apply below_drew1) | exact HB.out)⟩⟩
  case round =>
    clear H'
    try clear p2
    obtain ⟨x1_1, x7_1, rfl, HA, HK1, HO_1, HB⟩ := hrel
    cases gk with
    | zero => exact absurd HA.out (by simp [cards_fields.l0])
    | succ k1 =>
      have H := HA.out
      clear HA
      simp only [cards_fields.l0] at H
      by_cases c3 : x7_1 < 6
      · rw [if_pos c3] at H
        have c3b0 : decide (x7_1 < 6) = true := decide_eq_true c3
        clear c3
        by_cases c4 : x1_1.length < 5864062014805
        · rw [if_pos c4] at H
          have LMc4 := Aside0.mk c4
          clear c4
          obtain ⟨y166, hy166⟩ : ∃ y_ : List (S102), y_ = (x1_1 ++ [(⟨wrap64 (2 + (wrap64 (Int.tdiv x7_1 4))), wrap64 (16 * (Int.tmod x7_1 4)), 16⟩ : S102)]) := ⟨_, rfl⟩
          replace H : (cards_fields.l0 k1 y166 (wrap64 (x7_1 + 1))) = some r := by first | (rw [hy166]; with_reducible exact H) | (have H2_ := (Option.bind_some _ _).symm.trans H; rw [hy166]; with_reducible exact H2_) | (have H2_ := (Option.bind_some _ _).symm.trans H; with_reducible exact H2_) | with_reducible exact H | (rw [hy166]; exact H) | exact H
          have Ny166 := Aside0.mk hy166
          clear hy166
          have H' := Aside0.mk H
          clear H
          go_wp2_with (first | ((with_reducible refine gate_builtin (b := .append) (xs := #[.tmp 10, .tmp 18]) rfl ?_); at_builtin; refine Kd.R_append k102 (w0 := w) w.heap.size rfl (.tmp 10) (.tmp 18) 99 102 (.agg #[(.int .i64 0), (.int .i64 0), (.int .i64 0)]) 24 rfl Try.underlying99 info102 rfl (by decide) (by omega) u1 x1_1 (⟨wrap64 (2 + (wrap64 (Int.tdiv x7_1 4))), wrap64 (16 * (Int.tmod x7_1 4)), 16⟩ : S102) [.int .i64 (wrap64 (2 + (wrap64 (Int.tdiv x7_1 4)))), .int .i64 (wrap64 (16 * (Int.tmod x7_1 4))), .int .i64 16] (fun _ => True) (fun _ => False) rfl rfl ?aP (fun _ hk => hk.elim) ?aF ?aO ?aB ?aS ?aL ?_; (case aP => exact k102_mkM _ _ _ (⟨wrap64 (2 + (wrap64 (Int.tdiv x7_1 4))), wrap64 (16 * (Int.tmod x7_1 4)), 16⟩ : S102)); (case aB => exact (by repeat (first | (with_reducible first | exact HB.out | apply below_alloc | apply pw_below_drewN | apply below_drew1) | exact HB.out))); (case aF => exact (fun _ _ => trivial)); (case aO => exact (by (with_reducible repeat (first | apply Kd.R_alloc | apply Kd.R_drewN | apply Kd.R_drew)); exact HO_1.out)); (case aS => exact (below_size (by repeat (first | (with_reducible first | exact HB.out | apply below_alloc | apply pw_below_drewN | apply below_drew1) | exact HB.out)))); (case aL => have := LMc4.out; omega); intro v167 w5 ho hb hg hat; rw [← Ny166.out] at ho; have n0_ := Aside0.mk (hb); have n1_ := Aside0.mk (ho); clear HB; clear HO_1; have HB := n0_; have HO168 := n1_; clear n0_ n1_; clear ho hb hg hat))
          go_roundg k1
          case measure => have := HK1.out; omega
          case rel => exact ⟨(y166), (wrap64 (x7_1 + 1)), (by first | rfl | (simp; done) | (simp [*]; done) | kernel_rfl), H', ⟨by have := HK1.out; omega⟩, ⟨by (with_reducible repeat (first | apply Kd.R_alloc | apply Kd.R_drewN | apply Kd.R_drew)); exact HO168.out⟩, ⟨by repeat (first | (with_reducible first | exact HB.out | apply below_alloc | apply pw_below_drewN | apply below_drew1) | exact HB.out)⟩⟩
        · rw [if_neg c4] at H
          exact absurd H (by simp)
      · rw [if_neg c3] at H
        have c3b0 : decide (x7_1 < 6) = false := decide_eq_false c3
        clear c3
        obtain rfl := Option.some.inj H
        go_wp2
        go_ret
        exact ⟨_, by first | rfl | (simp [errW_none, errW_some] <;> rfl) | (simp [*, errW_none, errW_some] <;> rfl), by (with_reducible repeat (first | apply Kd.R_alloc | apply Kd.R_drewN | apply Kd.R_drew)); exact HO_1.out, by repeat (first | (with_reducible first | exact HB.out | apply below_alloc | apply pw_below_drewN | apply below_drew1) | exact HB.out)⟩

/-! ### cards_None: function 92 -/
def cards_None.l0 : Nat → Int → Int → Int → Int → Int → Int → Int → Int → Int → Int → Int → Option (Int × Int × Int × Int × Int × Int × Int × Int × Int × Int)
  | 0, _, _, _, _, _, _, _, _, _, _, _ => none
  | k + 1, x7, x171000, x171001, x171002, x171003, x171004, x171005, x171006, x171007, x171008, x171009 => if x7 < 5 then (if x7 = 0 then (cards_None.l0 k (wrap64 (x7 + 1)) x171000 x171001 x171002 x171003 (-1) x171005 x171006 x171007 x171008 x171009) else (if x7 = 1 then (cards_None.l0 k (wrap64 (x7 + 1)) x171000 x171001 x171002 x171003 x171004 (-1) x171006 x171007 x171008 x171009) else (if x7 = 2 then (cards_None.l0 k (wrap64 (x7 + 1)) x171000 x171001 x171002 x171003 x171004 x171005 (-1) x171007 x171008 x171009) else (if x7 = 3 then (cards_None.l0 k (wrap64 (x7 + 1)) x171000 x171001 x171002 x171003 x171004 x171005 x171006 (-1) x171008 x171009) else (if x7 = 4 then (cards_None.l0 k (wrap64 (x7 + 1)) x171000 x171001 x171002 x171003 x171004 x171005 x171006 x171007 (-1) x171009) else (none)))))) else (some (x171000, x171001, x171002, x171003, x171004, x171005, x171006, x171007, x171008, x171009))
def cards_None.f (k : Nat) (a0 : Int) : Option (Int × Int × Int × Int × Int × Int × Int × Int × Int × Int) := cards_None.l0 k 0 0 0 0 a0 0 0 0 0 0 (-1)
set_option maxHeartbeats 8000000 in
set_option maxRecDepth 100000 in
theorem cards_None.calls (k : Nat) (a0 : Int) (r1 : Int) (r2 : Int) (r3 : Int) (r4 : Int) (r5 : Int) (r6 : Int) (r7 : Int) (r8 : Int) (r9 : Int) (r10 : Int) (w : World) (h : cards_None.f k a0 = some (r1, r2, r3, r4, r5, r6, r7, r8, r9, r10)) :
    Calls Try.prog 92 #[.int .u64 a0] w fun e w' => e = .returned (.agg #[.int .i64 r1, .int .i64 r2, .int .i64 r3, .int .u64 r4, .int .i64 r5, .int .i64 r6, .int .i64 r7, .int .i64 r8, .int .i64 r9, .int .i64 r10]) ∧ Below w.heap.size w w' := by
  have hu45 := Try.underlying45
  have HB := Aside0.mk (Below.refl w.heap.size w)
  have H : (cards_None.l0 k 0 0 0 0 a0 0 0 0 0 0 (-1)) = some (r1, r2, r3, r4, r5, r6, r7, r8, r9, r10) := h
  clear h
  have H' := Aside0.mk H
  clear H
  go_enter Try.func92, Try.ntmps92
  go_wp2_with (first | ((with_reducible refine gate_dst (N := 2) rfl ?_); refine box_event ?hg (N := 2) ?hd (cs := #[.int .i64 0, .int .i64 0, .int .i64 0, .int .u64 0, .int .i64 0, .int .i64 0, .int .i64 0, .int .i64 0, .int .i64 0, .int .i64 0]) (t := 45) ?hr ?_; (case hd => rfl); (case hg => rfl); (case hr => first | (go_simp; done) | (go_simp; rfl)); intro gb169 hg w2 hbox hb; have n0_ := Aside0.mk (below_step (by repeat (first | (with_reducible first | exact HB.out | apply below_alloc | apply pw_below_drewN | apply below_drew1) | exact HB.out)) hb); have n1_ := Aside0.mk (hbox); have n2_ := Aside0.mk ((by rw [hg]; exact (below_size (by repeat (first | (with_reducible first | exact HB.out | apply below_alloc | apply pw_below_drewN | apply below_drew1) | exact HB.out))) : w.heap.size ≤ gb169)); have n3_ := Aside0.mk ((by rw [hg]; exact (below_size (by repeat (first | (with_reducible first | exact HB.out | apply below_alloc | apply pw_below_drewN | apply below_drew1) | exact HB.out))) : w.heap.size ≤ gb169)); clear HB; have HB := n0_; have BK169 := n1_; have GW169 := n2_; have GE169 := n3_; clear n0_ n1_ n2_ n3_; clear hb hbox hg) | ((with_reducible refine gate_dst (N := 3) rfl ?_); refine box_event ?hg (N := 3) ?hd (cs := #[.int .i64 0, .int .i64 0, .int .i64 0, .int .u64 0, .int .i64 0, .int .i64 0, .int .i64 0, .int .i64 0, .int .i64 0, .int .i64 0]) (t := 45) ?hr ?_; (case hd => rfl); (case hg => rfl); (case hr => first | (go_simp; done) | (go_simp; rfl)); intro gb170 hg w3 hbox hb; have n0_ := Aside0.mk (blk_below (g := gb169) (o := .cells #[.int .i64 0, .int .i64 0, .int .i64 0, .int .u64 0, .int .i64 0, .int .i64 0, .int .i64 0, .int .i64 0, .int .i64 0, .int .i64 0] 45 (0, 0)) (by (with_reducible repeat (first | refine blk_drewN ?_ _ | refine blk_drew ?_ | refine blk_alloc ?_ _)); exact BK169.out) hb); have n1_ := Aside0.mk (below_step (by repeat (first | (with_reducible first | exact HB.out | apply below_alloc | apply pw_below_drewN | apply below_drew1 | refine below_set ?_ GE169.out) | exact HB.out)) hb); have n2_ := Aside0.mk (hbox); have n3_ := Aside0.mk ((by rw [hg]; exact (below_size (by repeat (first | (with_reducible first | exact HB.out | apply below_alloc | apply pw_below_drewN | apply below_drew1 | refine below_set ?_ GE169.out) | exact HB.out))) : w.heap.size ≤ gb170)); have n4_ := Aside0.mk ((by rw [hg]; exact (below_size (by repeat (first | (with_reducible first | exact HB.out | apply below_alloc | apply pw_below_drewN | apply below_drew1 | refine below_set ?_ GE169.out) | exact HB.out))) : w.heap.size ≤ gb170)); have n5_ := Aside0.mk ((by rw [hg]; exact Nat.ne_of_lt (blk_lt (g := gb169) (o := .cells #[.int .i64 0, .int .i64 0, .int .i64 0, .int .u64 0, .int .i64 0, .int .i64 0, .int .i64 0, .int .i64 0, .int .i64 0, .int .i64 0] 45 (0, 0)) (by (with_reducible repeat (first | refine blk_drewN ?_ _ | refine blk_drew ?_ | refine blk_alloc ?_ _)); exact BK169.out)) : gb169 ≠ gb170)); have n6_ := Aside0.mk ((by rw [hg]; exact Nat.ne_of_gt (blk_lt (g := gb169) (o := .cells #[.int .i64 0, .int .i64 0, .int .i64 0, .int .u64 0, .int .i64 0, .int .i64 0, .int .i64 0, .int .i64 0, .int .i64 0, .int .i64 0] 45 (0, 0)) (by (with_reducible repeat (first | refine blk_drewN ?_ _ | refine blk_drew ?_ | refine blk_alloc ?_ _)); exact BK169.out)) : gb170 ≠ gb169)); clear BK169; clear HB; have BK169 := n0_; have HB := n1_; have BK170 := n2_; have GW170 := n3_; have GE170 := n4_; have NB169_170 := n5_; have NB170_169 := n6_; clear n0_ n1_ n2_ n3_ n4_ n5_ n6_; clear hb hbox hg; have hnb4 := NB170_169.out; have hnc4 := NB169_170.out; have hcz5_0 : w3.cell? ⟨gb170, 0, none⟩ = some (.int .i64 0) := (blk_cell BK170.out 0).trans rfl; have hcz5_1 : w3.cell? ⟨gb170, 1, none⟩ = some (.int .i64 0) := (blk_cell BK170.out 1).trans rfl; have hcz5_2 : w3.cell? ⟨gb170, 2, none⟩ = some (.int .i64 0) := (blk_cell BK170.out 2).trans rfl; have hcz5_3 : w3.cell? ⟨gb170, 3, none⟩ = some (.int .u64 0) := (blk_cell BK170.out 3).trans rfl; have hcz5_4 : w3.cell? ⟨gb170, 4, none⟩ = some (.int .i64 0) := (blk_cell BK170.out 4).trans rfl; have hcz5_5 : w3.cell? ⟨gb170, 5, none⟩ = some (.int .i64 0) := (blk_cell BK170.out 5).trans rfl; have hcz5_6 : w3.cell? ⟨gb170, 6, none⟩ = some (.int .i64 0) := (blk_cell BK170.out 6).trans rfl; have hcz5_7 : w3.cell? ⟨gb170, 7, none⟩ = some (.int .i64 0) := (blk_cell BK170.out 7).trans rfl; have hcz5_8 : w3.cell? ⟨gb170, 8, none⟩ = some (.int .i64 0) := (blk_cell BK170.out 8).trans rfl; have hcz5_9 : w3.cell? ⟨gb170, 9, none⟩ = some (.int .i64 0) := (blk_cell BK170.out 9).trans rfl; have hfz5_0 := blk_frozen BK170.out 0; have hfz5_1 := blk_frozen BK170.out 1; have hfz5_2 := blk_frozen BK170.out 2; have hfz5_3 := blk_frozen BK170.out 3; have hfz5_4 := blk_frozen BK170.out 4; have hfz5_5 := blk_frozen BK170.out 5; have hfz5_6 := blk_frozen BK170.out 6; have hfz5_7 := blk_frozen BK170.out 7; have hfz5_8 := blk_frozen BK170.out 8; have hfz5_9 := blk_frozen BK170.out 9) | ((with_reducible refine gate_store (t := 45) (p := 3) rfl ?_); refine store_event (t := 45) (p := 3) (v := ?vo_w6) (w1 := ((((((((((w3.setCell ⟨gb170, 0, none⟩ (.int .i64 0)).setCell ⟨gb170, 1, none⟩ (.int .i64 0)).setCell ⟨gb170, 2, none⟩ (.int .i64 0)).setCell ⟨gb170, 3, none⟩ (.int .u64 a0)).setCell ⟨gb170, 4, none⟩ (.int .i64 0)).setCell ⟨gb170, 5, none⟩ (.int .i64 0)).setCell ⟨gb170, 6, none⟩ (.int .i64 0)).setCell ⟨gb170, 7, none⟩ (.int .i64 0)).setCell ⟨gb170, 8, none⟩ (.int .i64 0)).setCell ⟨gb170, 9, none⟩ (.int .i64 (-1)))) ?hg ?ho ?hn ?hr ?_; (case ho => rfl); (case hg => rfl); (case hn => rfl); (case hr => exact pr_store_exec rfl rfl rfl (run_store_run (P := Try.prog) (o := 0) (cur := #[.int .i64 0, .int .i64 0, .int .i64 0, .int .u64 0, .int .i64 0, .int .i64 0, .int .i64 0, .int .i64 0, .int .i64 0, .int .i64 0]) 45 (.agg #[.int .i64 0, .int .i64 0, .int .i64 0, .int .u64 a0, .int .i64 0, .int .i64 0, .int .i64 0, .int .i64 0, .int .i64 0, .int .i64 (-1)]) [.int .i64 0, .int .i64 0, .int .i64 0, .int .u64 a0, .int .i64 0, .int .i64 0, .int .i64 0, .int .i64 0, .int .i64 0, .int .i64 (-1)] (show _ = some (Obj.cells #[.int .i64 0, .int .i64 0, .int .i64 0, .int .u64 0, .int .i64 0, .int .i64 0, .int .i64 0, .int .i64 0, .int .i64 0, .int .i64 0] 45 (0, 0)) from (by (with_reducible repeat (first | refine blk_drewN ?_ _ | refine blk_drew ?_ | refine blk_alloc ?_ _)); exact BK170.out)) rfl (by kernel_rfl) (show 10 ≤ 10 by decide) (by intro q_ hq_; simp only [List.mem_cons, List.not_mem_nil, or_false] at hq_; rcases hq_ with rfl | rfl | rfl | rfl | rfl | rfl | rfl | rfl | rfl | rfl <;> rfl))); intro w6 hw; have n0_ : Aside0 (w6.heap[gb169]? = some (.cells #[.int .i64 0, .int .i64 0, .int .i64 0, .int .u64 0, .int .i64 0, .int .i64 0, .int .i64 0, .int .i64 0, .int .i64 0, .int .i64 0] 45 (0, 0))) := ⟨(by rw [hw]; exact (by (with_reducible repeat (first | refine blk_drewN ?_ _ | refine blk_drew ?_ | refine blk_alloc ?_ _)); refine blk_far ?_ NB169_170.out _; (with_reducible repeat (first | refine blk_drewN ?_ _ | refine blk_drew ?_ | refine blk_alloc ?_ _)); refine blk_far ?_ NB169_170.out _; (with_reducible repeat (first | refine blk_drewN ?_ _ | refine blk_drew ?_ | refine blk_alloc ?_ _)); refine blk_far ?_ NB169_170.out _; (with_reducible repeat (first | refine blk_drewN ?_ _ | refine blk_drew ?_ | refine blk_alloc ?_ _)); refine blk_far ?_ NB169_170.out _; (with_reducible repeat (first | refine blk_drewN ?_ _ | refine blk_drew ?_ | refine blk_alloc ?_ _)); refine blk_far ?_ NB169_170.out _; (with_reducible repeat (first | refine blk_drewN ?_ _ | refine blk_drew ?_ | refine blk_alloc ?_ _)); refine blk_far ?_ NB169_170.out _; (with_reducible repeat (first | refine blk_drewN ?_ _ | refine blk_drew ?_ | refine blk_alloc ?_ _)); refine blk_far ?_ NB169_170.out _; (with_reducible repeat (first | refine blk_drewN ?_ _ | refine blk_drew ?_ | refine blk_alloc ?_ _)); refine blk_far ?_ NB169_170.out _; (with_reducible repeat (first | refine blk_drewN ?_ _ | refine blk_drew ?_ | refine blk_alloc ?_ _)); refine blk_far ?_ NB169_170.out _; (with_reducible repeat (first | refine blk_drewN ?_ _ | refine blk_drew ?_ | refine blk_alloc ?_ _)); refine blk_far ?_ NB169_170.out _; (with_reducible repeat (first | refine blk_drewN ?_ _ | refine blk_drew ?_ | refine blk_alloc ?_ _)); exact BK169.out))⟩; have n1_ : Aside0 (w6.heap[gb170]? = some (.cells #[.int .i64 0, .int .i64 0, .int .i64 0, .int .u64 a0, .int .i64 0, .int .i64 0, .int .i64 0, .int .i64 0, .int .i64 0, .int .i64 (-1)] 45 (0, 0))) := ⟨(by rw [hw]; exact (by (with_reducible repeat (first | refine blk_drewN ?_ _ | refine blk_drew ?_ | refine blk_alloc ?_ _)); refine blk_put (cs := #[.int .i64 0, .int .i64 0, .int .i64 0, .int .u64 a0, .int .i64 0, .int .i64 0, .int .i64 0, .int .i64 0, .int .i64 0, .int .i64 0]) ?_ 9 _ rfl; (with_reducible repeat (first | refine blk_drewN ?_ _ | refine blk_drew ?_ | refine blk_alloc ?_ _)); refine blk_put (cs := #[.int .i64 0, .int .i64 0, .int .i64 0, .int .u64 a0, .int .i64 0, .int .i64 0, .int .i64 0, .int .i64 0, .int .i64 0, .int .i64 0]) ?_ 8 _ rfl; (with_reducible repeat (first | refine blk_drewN ?_ _ | refine blk_drew ?_ | refine blk_alloc ?_ _)); refine blk_put (cs := #[.int .i64 0, .int .i64 0, .int .i64 0, .int .u64 a0, .int .i64 0, .int .i64 0, .int .i64 0, .int .i64 0, .int .i64 0, .int .i64 0]) ?_ 7 _ rfl; (with_reducible repeat (first | refine blk_drewN ?_ _ | refine blk_drew ?_ | refine blk_alloc ?_ _)); refine blk_put (cs := #[.int .i64 0, .int .i64 0, .int .i64 0, .int .u64 a0, .int .i64 0, .int .i64 0, .int .i64 0, .int .i64 0, .int .i64 0, .int .i64 0]) ?_ 6 _ rfl; (with_reducible repeat (first | refine blk_drewN ?_ _ | refine blk_drew ?_ | refine blk_alloc ?_ _)); refine blk_put (cs := #[.int .i64 0, .int .i64 0, .int .i64 0, .int .u64 a0, .int .i64 0, .int .i64 0, .int .i64 0, .int .i64 0, .int .i64 0, .int .i64 0]) ?_ 5 _ rfl; (with_reducible repeat (first | refine blk_drewN ?_ _ | refine blk_drew ?_ | refine blk_alloc ?_ _)); refine blk_put (cs := #[.int .i64 0, .int .i64 0, .int .i64 0, .int .u64 a0, .int .i64 0, .int .i64 0, .int .i64 0, .int .i64 0, .int .i64 0, .int .i64 0]) ?_ 4 _ rfl; (with_reducible repeat (first | refine blk_drewN ?_ _ | refine blk_drew ?_ | refine blk_alloc ?_ _)); refine blk_put (cs := #[.int .i64 0, .int .i64 0, .int .i64 0, .int .u64 0, .int .i64 0, .int .i64 0, .int .i64 0, .int .i64 0, .int .i64 0, .int .i64 0]) ?_ 3 _ rfl; (with_reducible repeat (first | refine blk_drewN ?_ _ | refine blk_drew ?_ | refine blk_alloc ?_ _)); refine blk_put (cs := #[.int .i64 0, .int .i64 0, .int .i64 0, .int .u64 0, .int .i64 0, .int .i64 0, .int .i64 0, .int .i64 0, .int .i64 0, .int .i64 0]) ?_ 2 _ rfl; (with_reducible repeat (first | refine blk_drewN ?_ _ | refine blk_drew ?_ | refine blk_alloc ?_ _)); refine blk_put (cs := #[.int .i64 0, .int .i64 0, .int .i64 0, .int .u64 0, .int .i64 0, .int .i64 0, .int .i64 0, .int .i64 0, .int .i64 0, .int .i64 0]) ?_ 1 _ rfl; (with_reducible repeat (first | refine blk_drewN ?_ _ | refine blk_drew ?_ | refine blk_alloc ?_ _)); refine blk_put (cs := #[.int .i64 0, .int .i64 0, .int .i64 0, .int .u64 0, .int .i64 0, .int .i64 0, .int .i64 0, .int .i64 0, .int .i64 0, .int .i64 0]) ?_ 0 _ rfl; (with_reducible repeat (first | refine blk_drewN ?_ _ | refine blk_drew ?_ | refine blk_alloc ?_ _)); exact BK170.out))⟩; have n2_ : Aside0 (Below w.heap.size w w6) := ⟨(by rw [hw]; exact (by repeat (first | (with_reducible first | exact HB.out | apply below_alloc | apply pw_below_drewN | apply below_drew1 | refine below_set ?_ GE169.out | refine below_set ?_ GE170.out) | exact HB.out)))⟩; clear hw; clear BK169; clear BK170; clear HB; have BK169 := n0_; have BK170 := n1_; have HB := n2_; clear n0_ n1_ n2_))
  go_loopg [7] k (fun kq v7 w' => ∃ (x7_1 : Int) (x171004_1 : Int) (x171005_1 : Int) (x171006_1 : Int) (x171007_1 : Int) (x171008_1 : Int), v7 = .int .i64 x7_1 ∧ Aside0 (cards_None.l0 kq x7_1 0 0 0 a0 x171004_1 x171005_1 x171006_1 x171007_1 x171008_1 (-1) = some (r1, r2, r3, r4, r5, r6, r7, r8, r9, r10)) ∧ Aside0 (kq ≤ k) ∧ Aside0 (w'.heap[gb169]? = some (.cells #[.int .i64 0, .int .i64 0, .int .i64 0, .int .u64 0, .int .i64 0, .int .i64 0, .int .i64 0, .int .i64 0, .int .i64 0, .int .i64 0] 45 (0, 0))) ∧ Aside0 (w'.heap[gb170]? = some (.cells #[.int .i64 0, .int .i64 0, .int .i64 0, .int .u64 a0, .int .i64 x171004_1, .int .i64 x171005_1, .int .i64 x171006_1, .int .i64 x171007_1, .int .i64 x171008_1, .int .i64 (-1)] 45 (0, 0))) ∧ Aside0 (Below w.heap.size w w'))
  case atStart => exact ⟨(0), (0), (0), (0), (0), (0), (by first | rfl | (simp; done) | (simp [*]; done) | kernel_rfl), H', ⟨Nat.le_refl _⟩, ⟨by (with_reducible repeat (first | refine blk_drewN ?_ _ | refine blk_drew ?_ | refine blk_alloc ?_ _)); exact BK169.out⟩, ⟨by (with_reducible repeat (first | refine blk_drewN ?_ _ | refine blk_drew ?_ | refine blk_alloc ?_ _)); exact BK170.out⟩, ⟨by repeat (first | (with_reducible first | exact HB.out | apply below_alloc | apply pw_below_drewN | apply below_drew1 | refine below_set ?_ GE169.out | refine below_set ?_ GE170.out) | exact HB.out)⟩⟩
  case round =>
    clear H'
    try clear p2
    try clear c4
    try clear hcz5_0
    try clear hcz5_1
    try clear hcz5_2
    try clear hcz5_3
    try clear hcz5_4
    try clear hcz5_5
    try clear hcz5_6
    try clear hcz5_7
    try clear hcz5_8
    try clear hcz5_9
    try clear hfz5_0
    try clear hfz5_1
    try clear hfz5_2
    try clear hfz5_3
    try clear hfz5_4
    try clear hfz5_5
    try clear hfz5_6
    try clear hfz5_7
    try clear hfz5_8
    try clear hfz5_9
    obtain ⟨x7_1, x171004_1, x171005_1, x171006_1, x171007_1, x171008_1, rfl, HA, HK1, BK169, BK170, HB⟩ := hrel
    cases gk with
    | zero => exact absurd HA.out (by simp [cards_None.l0])
    | succ k1 =>
      have H := HA.out
      clear HA
      simp only [cards_None.l0] at H
      by_cases c7 : x7_1 < 5
      · rw [if_pos c7] at H
        have c7b0 : decide (x7_1 < 5) = true := decide_eq_true c7
        clear c7
        by_cases c8 : x7_1 = 0
        · subst c8
          have H1 : (cards_None.l0 k1 (wrap64 (0 + 1)) 0 0 0 a0 (-1) x171005_1 x171006_1 x171007_1 x171008_1 (-1)) = some (r1, r2, r3, r4, r5, r6, r7, r8, r9, r10) := by rw [if_pos rfl] at H; exact H
          clear H
          have H := H1
          clear H1
          have H' := Aside0.mk H
          clear H
          have hnb9 := NB170_169.out
          have hnc9 := NB169_170.out
          have hcz10_0 : wr.cell? ⟨gb170, 0, none⟩ = some (.int .i64 0) := (blk_cell BK170.out 0).trans rfl
          have hcz10_1 : wr.cell? ⟨gb170, 1, none⟩ = some (.int .i64 0) := (blk_cell BK170.out 1).trans rfl
          have hcz10_2 : wr.cell? ⟨gb170, 2, none⟩ = some (.int .i64 0) := (blk_cell BK170.out 2).trans rfl
          have hcz10_3 : wr.cell? ⟨gb170, 3, none⟩ = some (.int .u64 a0) := (blk_cell BK170.out 3).trans rfl
          have hcz10_4 : wr.cell? ⟨gb170, 4, none⟩ = some (.int .i64 x171004_1) := (blk_cell BK170.out 4).trans rfl
          have hcz10_5 : wr.cell? ⟨gb170, 5, none⟩ = some (.int .i64 x171005_1) := (blk_cell BK170.out 5).trans rfl
          have hcz10_6 : wr.cell? ⟨gb170, 6, none⟩ = some (.int .i64 x171006_1) := (blk_cell BK170.out 6).trans rfl
          have hcz10_7 : wr.cell? ⟨gb170, 7, none⟩ = some (.int .i64 x171007_1) := (blk_cell BK170.out 7).trans rfl
          have hcz10_8 : wr.cell? ⟨gb170, 8, none⟩ = some (.int .i64 x171008_1) := (blk_cell BK170.out 8).trans rfl
          have hcz10_9 : wr.cell? ⟨gb170, 9, none⟩ = some (.int .i64 (-1)) := (blk_cell BK170.out 9).trans rfl
          have hfz10_0 := blk_frozen BK170.out 0
          have hfz10_1 := blk_frozen BK170.out 1
          have hfz10_2 := blk_frozen BK170.out 2
          have hfz10_3 := blk_frozen BK170.out 3
          have hfz10_4 := blk_frozen BK170.out 4
          have hfz10_5 := blk_frozen BK170.out 5
          have hfz10_6 := blk_frozen BK170.out 6
          have hfz10_7 := blk_frozen BK170.out 7
          have hfz10_8 := blk_frozen BK170.out 8
          have hfz10_9 := blk_frozen BK170.out 9
          go_wp2
          go_roundg k1
          case measure => have := HK1.out; omega
          case rel => exact ⟨(wrap64 (0 + 1)), ((-1)), (x171005_1), (x171006_1), (x171007_1), (x171008_1), (by first | rfl | (simp; done) | (simp [*]; done) | kernel_rfl), H', ⟨by have := HK1.out; omega⟩, ⟨by (with_reducible repeat (first | refine blk_drewN ?_ _ | refine blk_drew ?_ | refine blk_alloc ?_ _)); refine blk_far ?_ NB169_170.out _; (with_reducible repeat (first | refine blk_drewN ?_ _ | refine blk_drew ?_ | refine blk_alloc ?_ _)); exact BK169.out⟩, ⟨by (with_reducible repeat (first | refine blk_drewN ?_ _ | refine blk_drew ?_ | refine blk_alloc ?_ _)); refine blk_put (cs := #[.int .i64 0, .int .i64 0, .int .i64 0, .int .u64 a0, .int .i64 x171004_1, .int .i64 x171005_1, .int .i64 x171006_1, .int .i64 x171007_1, .int .i64 x171008_1, .int .i64 (-1)]) ?_ 4 _ rfl; (with_reducible repeat (first | refine blk_drewN ?_ _ | refine blk_drew ?_ | refine blk_alloc ?_ _)); exact BK170.out⟩, ⟨by repeat (first | (with_reducible first | exact HB.out | apply below_alloc | apply pw_below_drewN | apply below_drew1 | refine below_set ?_ GE169.out | refine below_set ?_ GE170.out) | exact HB.out)⟩⟩
        · rw [if_neg c8] at H
          by_cases c11 : x7_1 = 1
          · subst c11
            have H1 : (cards_None.l0 k1 (wrap64 (1 + 1)) 0 0 0 a0 x171004_1 (-1) x171006_1 x171007_1 x171008_1 (-1)) = some (r1, r2, r3, r4, r5, r6, r7, r8, r9, r10) := by rw [if_pos rfl] at H; exact H
            clear H
            have H := H1
            clear H1
            have H' := Aside0.mk H
            clear H
            have hnb12 := NB170_169.out
            have hnc12 := NB169_170.out
            have hcz13_0 : wr.cell? ⟨gb170, 0, none⟩ = some (.int .i64 0) := (blk_cell BK170.out 0).trans rfl
            have hcz13_1 : wr.cell? ⟨gb170, 1, none⟩ = some (.int .i64 0) := (blk_cell BK170.out 1).trans rfl
            have hcz13_2 : wr.cell? ⟨gb170, 2, none⟩ = some (.int .i64 0) := (blk_cell BK170.out 2).trans rfl
            have hcz13_3 : wr.cell? ⟨gb170, 3, none⟩ = some (.int .u64 a0) := (blk_cell BK170.out 3).trans rfl
            have hcz13_4 : wr.cell? ⟨gb170, 4, none⟩ = some (.int .i64 x171004_1) := (blk_cell BK170.out 4).trans rfl
            have hcz13_5 : wr.cell? ⟨gb170, 5, none⟩ = some (.int .i64 x171005_1) := (blk_cell BK170.out 5).trans rfl
            have hcz13_6 : wr.cell? ⟨gb170, 6, none⟩ = some (.int .i64 x171006_1) := (blk_cell BK170.out 6).trans rfl
            have hcz13_7 : wr.cell? ⟨gb170, 7, none⟩ = some (.int .i64 x171007_1) := (blk_cell BK170.out 7).trans rfl
            have hcz13_8 : wr.cell? ⟨gb170, 8, none⟩ = some (.int .i64 x171008_1) := (blk_cell BK170.out 8).trans rfl
            have hcz13_9 : wr.cell? ⟨gb170, 9, none⟩ = some (.int .i64 (-1)) := (blk_cell BK170.out 9).trans rfl
            have hfz13_0 := blk_frozen BK170.out 0
            have hfz13_1 := blk_frozen BK170.out 1
            have hfz13_2 := blk_frozen BK170.out 2
            have hfz13_3 := blk_frozen BK170.out 3
            have hfz13_4 := blk_frozen BK170.out 4
            have hfz13_5 := blk_frozen BK170.out 5
            have hfz13_6 := blk_frozen BK170.out 6
            have hfz13_7 := blk_frozen BK170.out 7
            have hfz13_8 := blk_frozen BK170.out 8
            have hfz13_9 := blk_frozen BK170.out 9
            go_wp2
            go_roundg k1
            case measure => have := HK1.out; omega
            case rel => exact ⟨(wrap64 (1 + 1)), (x171004_1), ((-1)), (x171006_1), (x171007_1), (x171008_1), (by first | rfl | (simp; done) | (simp [*]; done) | kernel_rfl), H', ⟨by have := HK1.out; omega⟩, ⟨by (with_reducible repeat (first | refine blk_drewN ?_ _ | refine blk_drew ?_ | refine blk_alloc ?_ _)); refine blk_far ?_ NB169_170.out _; (with_reducible repeat (first | refine blk_drewN ?_ _ | refine blk_drew ?_ | refine blk_alloc ?_ _)); exact BK169.out⟩, ⟨by (with_reducible repeat (first | refine blk_drewN ?_ _ | refine blk_drew ?_ | refine blk_alloc ?_ _)); refine blk_put (cs := #[.int .i64 0, .int .i64 0, .int .i64 0, .int .u64 a0, .int .i64 x171004_1, .int .i64 x171005_1, .int .i64 x171006_1, .int .i64 x171007_1, .int .i64 x171008_1, .int .i64 (-1)]) ?_ 5 _ rfl; (with_reducible repeat (first | refine blk_drewN ?_ _ | refine blk_drew ?_ | refine blk_alloc ?_ _)); exact BK170.out⟩, ⟨by repeat (first | (with_reducible first | exact HB.out | apply below_alloc | apply pw_below_drewN | apply below_drew1 | refine below_set ?_ GE169.out | refine below_set ?_ GE170.out) | exact HB.out)⟩⟩
          · rw [if_neg c11] at H
            by_cases c14 : x7_1 = 2
            · subst c14
              have H1 : (cards_None.l0 k1 (wrap64 (2 + 1)) 0 0 0 a0 x171004_1 x171005_1 (-1) x171007_1 x171008_1 (-1)) = some (r1, r2, r3, r4, r5, r6, r7, r8, r9, r10) := by rw [if_pos rfl] at H; exact H
              clear H
              have H := H1
              clear H1
              have H' := Aside0.mk H
              clear H
              have hnb15 := NB170_169.out
              have hnc15 := NB169_170.out
              have hcz16_0 : wr.cell? ⟨gb170, 0, none⟩ = some (.int .i64 0) := (blk_cell BK170.out 0).trans rfl
              have hcz16_1 : wr.cell? ⟨gb170, 1, none⟩ = some (.int .i64 0) := (blk_cell BK170.out 1).trans rfl
              have hcz16_2 : wr.cell? ⟨gb170, 2, none⟩ = some (.int .i64 0) := (blk_cell BK170.out 2).trans rfl
              have hcz16_3 : wr.cell? ⟨gb170, 3, none⟩ = some (.int .u64 a0) := (blk_cell BK170.out 3).trans rfl
              have hcz16_4 : wr.cell? ⟨gb170, 4, none⟩ = some (.int .i64 x171004_1) := (blk_cell BK170.out 4).trans rfl
              have hcz16_5 : wr.cell? ⟨gb170, 5, none⟩ = some (.int .i64 x171005_1) := (blk_cell BK170.out 5).trans rfl
              have hcz16_6 : wr.cell? ⟨gb170, 6, none⟩ = some (.int .i64 x171006_1) := (blk_cell BK170.out 6).trans rfl
              have hcz16_7 : wr.cell? ⟨gb170, 7, none⟩ = some (.int .i64 x171007_1) := (blk_cell BK170.out 7).trans rfl
              have hcz16_8 : wr.cell? ⟨gb170, 8, none⟩ = some (.int .i64 x171008_1) := (blk_cell BK170.out 8).trans rfl
              have hcz16_9 : wr.cell? ⟨gb170, 9, none⟩ = some (.int .i64 (-1)) := (blk_cell BK170.out 9).trans rfl
              have hfz16_0 := blk_frozen BK170.out 0
              have hfz16_1 := blk_frozen BK170.out 1
              have hfz16_2 := blk_frozen BK170.out 2
              have hfz16_3 := blk_frozen BK170.out 3
              have hfz16_4 := blk_frozen BK170.out 4
              have hfz16_5 := blk_frozen BK170.out 5
              have hfz16_6 := blk_frozen BK170.out 6
              have hfz16_7 := blk_frozen BK170.out 7
              have hfz16_8 := blk_frozen BK170.out 8
              have hfz16_9 := blk_frozen BK170.out 9
              go_wp2
              go_roundg k1
              case measure => have := HK1.out; omega
              case rel => exact ⟨(wrap64 (2 + 1)), (x171004_1), (x171005_1), ((-1)), (x171007_1), (x171008_1), (by first | rfl | (simp; done) | (simp [*]; done) | kernel_rfl), H', ⟨by have := HK1.out; omega⟩, ⟨by (with_reducible repeat (first | refine blk_drewN ?_ _ | refine blk_drew ?_ | refine blk_alloc ?_ _)); refine blk_far ?_ NB169_170.out _; (with_reducible repeat (first | refine blk_drewN ?_ _ | refine blk_drew ?_ | refine blk_alloc ?_ _)); exact BK169.out⟩, ⟨by (with_reducible repeat (first | refine blk_drewN ?_ _ | refine blk_drew ?_ | refine blk_alloc ?_ _)); refine blk_put (cs := #[.int .i64 0, .int .i64 0, .int .i64 0, .int .u64 a0, .int .i64 x171004_1, .int .i64 x171005_1, .int .i64 x171006_1, .int .i64 x171007_1, .int .i64 x171008_1, .int .i64 (-1)]) ?_ 6 _ rfl; (with_reducible repeat (first | refine blk_drewN ?_ _ | refine blk_drew ?_ | refine blk_alloc ?_ _)); exact BK170.out⟩, ⟨by repeat (first | (with_reducible first | exact HB.out | apply below_alloc | apply pw_below_drewN | apply below_drew1 | refine below_set ?_ GE169.out | refine below_set ?_ GE170.out) | exact HB.out)⟩⟩
            · rw [if_neg c14] at H
              by_cases c17 : x7_1 = 3
              · subst c17
                have H1 : (cards_None.l0 k1 (wrap64 (3 + 1)) 0 0 0 a0 x171004_1 x171005_1 x171006_1 (-1) x171008_1 (-1)) = some (r1, r2, r3, r4, r5, r6, r7, r8, r9, r10) := by rw [if_pos rfl] at H; exact H
                clear H
                have H := H1
                clear H1
                have H' := Aside0.mk H
                clear H
                have hnb18 := NB170_169.out
                have hnc18 := NB169_170.out
                have hcz19_0 : wr.cell? ⟨gb170, 0, none⟩ = some (.int .i64 0) := (blk_cell BK170.out 0).trans rfl
                have hcz19_1 : wr.cell? ⟨gb170, 1, none⟩ = some (.int .i64 0) := (blk_cell BK170.out 1).trans rfl
                have hcz19_2 : wr.cell? ⟨gb170, 2, none⟩ = some (.int .i64 0) := (blk_cell BK170.out 2).trans rfl
                have hcz19_3 : wr.cell? ⟨gb170, 3, none⟩ = some (.int .u64 a0) := (blk_cell BK170.out 3).trans rfl
                have hcz19_4 : wr.cell? ⟨gb170, 4, none⟩ = some (.int .i64 x171004_1) := (blk_cell BK170.out 4).trans rfl
                have hcz19_5 : wr.cell? ⟨gb170, 5, none⟩ = some (.int .i64 x171005_1) := (blk_cell BK170.out 5).trans rfl
                have hcz19_6 : wr.cell? ⟨gb170, 6, none⟩ = some (.int .i64 x171006_1) := (blk_cell BK170.out 6).trans rfl
                have hcz19_7 : wr.cell? ⟨gb170, 7, none⟩ = some (.int .i64 x171007_1) := (blk_cell BK170.out 7).trans rfl
                have hcz19_8 : wr.cell? ⟨gb170, 8, none⟩ = some (.int .i64 x171008_1) := (blk_cell BK170.out 8).trans rfl
                have hcz19_9 : wr.cell? ⟨gb170, 9, none⟩ = some (.int .i64 (-1)) := (blk_cell BK170.out 9).trans rfl
                have hfz19_0 := blk_frozen BK170.out 0
                have hfz19_1 := blk_frozen BK170.out 1
                have hfz19_2 := blk_frozen BK170.out 2
                have hfz19_3 := blk_frozen BK170.out 3
                have hfz19_4 := blk_frozen BK170.out 4
                have hfz19_5 := blk_frozen BK170.out 5
                have hfz19_6 := blk_frozen BK170.out 6
                have hfz19_7 := blk_frozen BK170.out 7
                have hfz19_8 := blk_frozen BK170.out 8
                have hfz19_9 := blk_frozen BK170.out 9
                go_wp2
                go_roundg k1
                case measure => have := HK1.out; omega
                case rel => exact ⟨(wrap64 (3 + 1)), (x171004_1), (x171005_1), (x171006_1), ((-1)), (x171008_1), (by first | rfl | (simp; done) | (simp [*]; done) | kernel_rfl), H', ⟨by have := HK1.out; omega⟩, ⟨by (with_reducible repeat (first | refine blk_drewN ?_ _ | refine blk_drew ?_ | refine blk_alloc ?_ _)); refine blk_far ?_ NB169_170.out _; (with_reducible repeat (first | refine blk_drewN ?_ _ | refine blk_drew ?_ | refine blk_alloc ?_ _)); exact BK169.out⟩, ⟨by (with_reducible repeat (first | refine blk_drewN ?_ _ | refine blk_drew ?_ | refine blk_alloc ?_ _)); refine blk_put (cs := #[.int .i64 0, .int .i64 0, .int .i64 0, .int .u64 a0, .int .i64 x171004_1, .int .i64 x171005_1, .int .i64 x171006_1, .int .i64 x171007_1, .int .i64 x171008_1, .int .i64 (-1)]) ?_ 7 _ rfl; (with_reducible repeat (first | refine blk_drewN ?_ _ | refine blk_drew ?_ | refine blk_alloc ?_ _)); exact BK170.out⟩, ⟨by repeat (first | (with_reducible first | exact HB.out | apply below_alloc | apply pw_below_drewN | apply below_drew1 | refine below_set ?_ GE169.out | refine below_set ?_ GE170.out) | exact HB.out)⟩⟩
              · rw [if_neg c17] at H
                by_cases c20 : x7_1 = 4
                · subst c20
                  have H1 : (cards_None.l0 k1 (wrap64 (4 + 1)) 0 0 0 a0 x171004_1 x171005_1 x171006_1 x171007_1 (-1) (-1)) = some (r1, r2, r3, r4, r5, r6, r7, r8, r9, r10) := by rw [if_pos rfl] at H; exact H
                  clear H
                  have H := H1
                  clear H1
                  have H' := Aside0.mk H
                  clear H
                  have hnb21 := NB170_169.out
                  have hnc21 := NB169_170.out
                  have hcz22_0 : wr.cell? ⟨gb170, 0, none⟩ = some (.int .i64 0) := (blk_cell BK170.out 0).trans rfl
                  have hcz22_1 : wr.cell? ⟨gb170, 1, none⟩ = some (.int .i64 0) := (blk_cell BK170.out 1).trans rfl
                  have hcz22_2 : wr.cell? ⟨gb170, 2, none⟩ = some (.int .i64 0) := (blk_cell BK170.out 2).trans rfl
                  have hcz22_3 : wr.cell? ⟨gb170, 3, none⟩ = some (.int .u64 a0) := (blk_cell BK170.out 3).trans rfl
                  have hcz22_4 : wr.cell? ⟨gb170, 4, none⟩ = some (.int .i64 x171004_1) := (blk_cell BK170.out 4).trans rfl
                  have hcz22_5 : wr.cell? ⟨gb170, 5, none⟩ = some (.int .i64 x171005_1) := (blk_cell BK170.out 5).trans rfl
                  have hcz22_6 : wr.cell? ⟨gb170, 6, none⟩ = some (.int .i64 x171006_1) := (blk_cell BK170.out 6).trans rfl
                  have hcz22_7 : wr.cell? ⟨gb170, 7, none⟩ = some (.int .i64 x171007_1) := (blk_cell BK170.out 7).trans rfl
                  have hcz22_8 : wr.cell? ⟨gb170, 8, none⟩ = some (.int .i64 x171008_1) := (blk_cell BK170.out 8).trans rfl
                  have hcz22_9 : wr.cell? ⟨gb170, 9, none⟩ = some (.int .i64 (-1)) := (blk_cell BK170.out 9).trans rfl
                  have hfz22_0 := blk_frozen BK170.out 0
                  have hfz22_1 := blk_frozen BK170.out 1
                  have hfz22_2 := blk_frozen BK170.out 2
                  have hfz22_3 := blk_frozen BK170.out 3
                  have hfz22_4 := blk_frozen BK170.out 4
                  have hfz22_5 := blk_frozen BK170.out 5
                  have hfz22_6 := blk_frozen BK170.out 6
                  have hfz22_7 := blk_frozen BK170.out 7
                  have hfz22_8 := blk_frozen BK170.out 8
                  have hfz22_9 := blk_frozen BK170.out 9
                  go_wp2
                  go_roundg k1
                  case measure => have := HK1.out; omega
                  case rel => exact ⟨(wrap64 (4 + 1)), (x171004_1), (x171005_1), (x171006_1), (x171007_1), ((-1)), (by first | rfl | (simp; done) | (simp [*]; done) | kernel_rfl), H', ⟨by have := HK1.out; omega⟩, ⟨by (with_reducible repeat (first | refine blk_drewN ?_ _ | refine blk_drew ?_ | refine blk_alloc ?_ _)); refine blk_far ?_ NB169_170.out _; (with_reducible repeat (first | refine blk_drewN ?_ _ | refine blk_drew ?_ | refine blk_alloc ?_ _)); exact BK169.out⟩, ⟨by (with_reducible repeat (first | refine blk_drewN ?_ _ | refine blk_drew ?_ | refine blk_alloc ?_ _)); refine blk_put (cs := #[.int .i64 0, .int .i64 0, .int .i64 0, .int .u64 a0, .int .i64 x171004_1, .int .i64 x171005_1, .int .i64 x171006_1, .int .i64 x171007_1, .int .i64 x171008_1, .int .i64 (-1)]) ?_ 8 _ rfl; (with_reducible repeat (first | refine blk_drewN ?_ _ | refine blk_drew ?_ | refine blk_alloc ?_ _)); exact BK170.out⟩, ⟨by repeat (first | (with_reducible first | exact HB.out | apply below_alloc | apply pw_below_drewN | apply below_drew1 | refine below_set ?_ GE169.out | refine below_set ?_ GE170.out) | exact HB.out)⟩⟩
                · rw [if_neg c20] at H
                  exact absurd H (by simp)
      · rw [if_neg c7] at H
        have c7b0 : decide (x7_1 < 5) = false := decide_eq_false c7
        clear c7
        simp only [Option.some.injEq, Prod.mk.injEq] at H
        obtain ⟨rfl, rfl, rfl, rfl, rfl, rfl, rfl, rfl, rfl, rfl⟩ := H
        have hnb23 := NB170_169.out
        have hnc23 := NB169_170.out
        have hcz24_0 : wr.cell? ⟨gb170, 0, none⟩ = some (.int .i64 0) := (blk_cell BK170.out 0).trans rfl
        have hcz24_1 : wr.cell? ⟨gb170, 1, none⟩ = some (.int .i64 0) := (blk_cell BK170.out 1).trans rfl
        have hcz24_2 : wr.cell? ⟨gb170, 2, none⟩ = some (.int .i64 0) := (blk_cell BK170.out 2).trans rfl
        have hcz24_3 : wr.cell? ⟨gb170, 3, none⟩ = some (.int .u64 a0) := (blk_cell BK170.out 3).trans rfl
        have hcz24_4 : wr.cell? ⟨gb170, 4, none⟩ = some (.int .i64 x171004_1) := (blk_cell BK170.out 4).trans rfl
        have hcz24_5 : wr.cell? ⟨gb170, 5, none⟩ = some (.int .i64 x171005_1) := (blk_cell BK170.out 5).trans rfl
        have hcz24_6 : wr.cell? ⟨gb170, 6, none⟩ = some (.int .i64 x171006_1) := (blk_cell BK170.out 6).trans rfl
        have hcz24_7 : wr.cell? ⟨gb170, 7, none⟩ = some (.int .i64 x171007_1) := (blk_cell BK170.out 7).trans rfl
        have hcz24_8 : wr.cell? ⟨gb170, 8, none⟩ = some (.int .i64 x171008_1) := (blk_cell BK170.out 8).trans rfl
        have hcz24_9 : wr.cell? ⟨gb170, 9, none⟩ = some (.int .i64 (-1)) := (blk_cell BK170.out 9).trans rfl
        have hfz24_0 := blk_frozen BK170.out 0
        have hfz24_1 := blk_frozen BK170.out 1
        have hfz24_2 := blk_frozen BK170.out 2
        have hfz24_3 := blk_frozen BK170.out 3
        have hfz24_4 := blk_frozen BK170.out 4
        have hfz24_5 := blk_frozen BK170.out 5
        have hfz24_6 := blk_frozen BK170.out 6
        have hfz24_7 := blk_frozen BK170.out 7
        have hfz24_8 := blk_frozen BK170.out 8
        have hfz24_9 := blk_frozen BK170.out 9
        have hcz25_0 : wr.cell? ⟨gb169, 0, none⟩ = some (.int .i64 0) := (blk_cell BK169.out 0).trans rfl
        have hcz25_1 : wr.cell? ⟨gb169, 1, none⟩ = some (.int .i64 0) := (blk_cell BK169.out 1).trans rfl
        have hcz25_2 : wr.cell? ⟨gb169, 2, none⟩ = some (.int .i64 0) := (blk_cell BK169.out 2).trans rfl
        have hcz25_3 : wr.cell? ⟨gb169, 3, none⟩ = some (.int .u64 0) := (blk_cell BK169.out 3).trans rfl
        have hcz25_4 : wr.cell? ⟨gb169, 4, none⟩ = some (.int .i64 0) := (blk_cell BK169.out 4).trans rfl
        have hcz25_5 : wr.cell? ⟨gb169, 5, none⟩ = some (.int .i64 0) := (blk_cell BK169.out 5).trans rfl
        have hcz25_6 : wr.cell? ⟨gb169, 6, none⟩ = some (.int .i64 0) := (blk_cell BK169.out 6).trans rfl
        have hcz25_7 : wr.cell? ⟨gb169, 7, none⟩ = some (.int .i64 0) := (blk_cell BK169.out 7).trans rfl
        have hcz25_8 : wr.cell? ⟨gb169, 8, none⟩ = some (.int .i64 0) := (blk_cell BK169.out 8).trans rfl
        have hcz25_9 : wr.cell? ⟨gb169, 9, none⟩ = some (.int .i64 0) := (blk_cell BK169.out 9).trans rfl
        have hfz25_0 := blk_frozen BK169.out 0
        have hfz25_1 := blk_frozen BK169.out 1
        have hfz25_2 := blk_frozen BK169.out 2
        have hfz25_3 := blk_frozen BK169.out 3
        have hfz25_4 := blk_frozen BK169.out 4
        have hfz25_5 := blk_frozen BK169.out 5
        have hfz25_6 := blk_frozen BK169.out 6
        have hfz25_7 := blk_frozen BK169.out 7
        have hfz25_8 := blk_frozen BK169.out 8
        have hfz25_9 := blk_frozen BK169.out 9
        go_wp2_with (first | ((with_reducible refine gate_store (t := 45) (p := 2) rfl ?_); refine store_event (t := 45) (p := 2) (v := ?vo_w26) (w1 := ((((((((((wr.setCell ⟨gb169, 0, none⟩ (.int .i64 0)).setCell ⟨gb169, 1, none⟩ (.int .i64 0)).setCell ⟨gb169, 2, none⟩ (.int .i64 0)).setCell ⟨gb169, 3, none⟩ (.int .u64 a0)).setCell ⟨gb169, 4, none⟩ (.int .i64 x171004_1)).setCell ⟨gb169, 5, none⟩ (.int .i64 x171005_1)).setCell ⟨gb169, 6, none⟩ (.int .i64 x171006_1)).setCell ⟨gb169, 7, none⟩ (.int .i64 x171007_1)).setCell ⟨gb169, 8, none⟩ (.int .i64 x171008_1)).setCell ⟨gb169, 9, none⟩ (.int .i64 (-1)))) ?hg ?ho ?hn ?hr ?_; (case ho => rfl); (case hg => rfl); (case hn => rfl); (case hr => exact pr_store_exec rfl rfl rfl (run_store_run (P := Try.prog) (o := 0) (cur := #[.int .i64 0, .int .i64 0, .int .i64 0, .int .u64 0, .int .i64 0, .int .i64 0, .int .i64 0, .int .i64 0, .int .i64 0, .int .i64 0]) 45 (.agg #[.int .i64 0, .int .i64 0, .int .i64 0, .int .u64 a0, .int .i64 x171004_1, .int .i64 x171005_1, .int .i64 x171006_1, .int .i64 x171007_1, .int .i64 x171008_1, .int .i64 (-1)]) [.int .i64 0, .int .i64 0, .int .i64 0, .int .u64 a0, .int .i64 x171004_1, .int .i64 x171005_1, .int .i64 x171006_1, .int .i64 x171007_1, .int .i64 x171008_1, .int .i64 (-1)] (show _ = some (Obj.cells #[.int .i64 0, .int .i64 0, .int .i64 0, .int .u64 0, .int .i64 0, .int .i64 0, .int .i64 0, .int .i64 0, .int .i64 0, .int .i64 0] 45 (0, 0)) from (by (with_reducible repeat (first | refine blk_drewN ?_ _ | refine blk_drew ?_ | refine blk_alloc ?_ _)); exact BK169.out)) rfl (by kernel_rfl) (show 10 ≤ 10 by decide) (by intro q_ hq_; simp only [List.mem_cons, List.not_mem_nil, or_false] at hq_; rcases hq_ with rfl | rfl | rfl | rfl | rfl | rfl | rfl | rfl | rfl | rfl <;> rfl))); intro w26 hw; have n0_ : Aside0 (w26.heap[gb169]? = some (.cells #[.int .i64 0, .int .i64 0, .int .i64 0, .int .u64 a0, .int .i64 x171004_1, .int .i64 x171005_1, .int .i64 x171006_1, .int .i64 x171007_1, .int .i64 x171008_1, .int .i64 (-1)] 45 (0, 0))) := ⟨(by rw [hw]; exact (by (with_reducible repeat (first | refine blk_drewN ?_ _ | refine blk_drew ?_ | refine blk_alloc ?_ _)); refine blk_put (cs := #[.int .i64 0, .int .i64 0, .int .i64 0, .int .u64 a0, .int .i64 x171004_1, .int .i64 x171005_1, .int .i64 x171006_1, .int .i64 x171007_1, .int .i64 x171008_1, .int .i64 0]) ?_ 9 _ rfl; (with_reducible repeat (first | refine blk_drewN ?_ _ | refine blk_drew ?_ | refine blk_alloc ?_ _)); refine blk_put (cs := #[.int .i64 0, .int .i64 0, .int .i64 0, .int .u64 a0, .int .i64 x171004_1, .int .i64 x171005_1, .int .i64 x171006_1, .int .i64 x171007_1, .int .i64 0, .int .i64 0]) ?_ 8 _ rfl; (with_reducible repeat (first | refine blk_drewN ?_ _ | refine blk_drew ?_ | refine blk_alloc ?_ _)); refine blk_put (cs := #[.int .i64 0, .int .i64 0, .int .i64 0, .int .u64 a0, .int .i64 x171004_1, .int .i64 x171005_1, .int .i64 x171006_1, .int .i64 0, .int .i64 0, .int .i64 0]) ?_ 7 _ rfl; (with_reducible repeat (first | refine blk_drewN ?_ _ | refine blk_drew ?_ | refine blk_alloc ?_ _)); refine blk_put (cs := #[.int .i64 0, .int .i64 0, .int .i64 0, .int .u64 a0, .int .i64 x171004_1, .int .i64 x171005_1, .int .i64 0, .int .i64 0, .int .i64 0, .int .i64 0]) ?_ 6 _ rfl; (with_reducible repeat (first | refine blk_drewN ?_ _ | refine blk_drew ?_ | refine blk_alloc ?_ _)); refine blk_put (cs := #[.int .i64 0, .int .i64 0, .int .i64 0, .int .u64 a0, .int .i64 x171004_1, .int .i64 0, .int .i64 0, .int .i64 0, .int .i64 0, .int .i64 0]) ?_ 5 _ rfl; (with_reducible repeat (first | refine blk_drewN ?_ _ | refine blk_drew ?_ | refine blk_alloc ?_ _)); refine blk_put (cs := #[.int .i64 0, .int .i64 0, .int .i64 0, .int .u64 a0, .int .i64 0, .int .i64 0, .int .i64 0, .int .i64 0, .int .i64 0, .int .i64 0]) ?_ 4 _ rfl; (with_reducible repeat (first | refine blk_drewN ?_ _ | refine blk_drew ?_ | refine blk_alloc ?_ _)); refine blk_put (cs := #[.int .i64 0, .int .i64 0, .int .i64 0, .int .u64 0, .int .i64 0, .int .i64 0, .int .i64 0, .int .i64 0, .int .i64 0, .int .i64 0]) ?_ 3 _ rfl; (with_reducible repeat (first | refine blk_drewN ?_ _ | refine blk_drew ?_ | refine blk_alloc ?_ _)); refine blk_put (cs := #[.int .i64 0, .int .i64 0, .int .i64 0, .int .u64 0, .int .i64 0, .int .i64 0, .int .i64 0, .int .i64 0, .int .i64 0, .int .i64 0]) ?_ 2 _ rfl; (with_reducible repeat (first | refine blk_drewN ?_ _ | refine blk_drew ?_ | refine blk_alloc ?_ _)); refine blk_put (cs := #[.int .i64 0, .int .i64 0, .int .i64 0, .int .u64 0, .int .i64 0, .int .i64 0, .int .i64 0, .int .i64 0, .int .i64 0, .int .i64 0]) ?_ 1 _ rfl; (with_reducible repeat (first | refine blk_drewN ?_ _ | refine blk_drew ?_ | refine blk_alloc ?_ _)); refine blk_put (cs := #[.int .i64 0, .int .i64 0, .int .i64 0, .int .u64 0, .int .i64 0, .int .i64 0, .int .i64 0, .int .i64 0, .int .i64 0, .int .i64 0]) ?_ 0 _ rfl; (with_reducible repeat (first | refine blk_drewN ?_ _ | refine blk_drew ?_ | refine blk_alloc ?_ _)); exact BK169.out))⟩; have n1_ : Aside0 (w26.heap[gb170]? = some (.cells #[.int .i64 0, .int .i64 0, .int .i64 0, .int .u64 a0, .int .i64 x171004_1, .int .i64 x171005_1, .int .i64 x171006_1, .int .i64 x171007_1, .int .i64 x171008_1, .int .i64 (-1)] 45 (0, 0))) := ⟨(by rw [hw]; exact (by (with_reducible repeat (first | refine blk_drewN ?_ _ | refine blk_drew ?_ | refine blk_alloc ?_ _)); refine blk_far ?_ NB170_169.out _; (with_reducible repeat (first | refine blk_drewN ?_ _ | refine blk_drew ?_ | refine blk_alloc ?_ _)); refine blk_far ?_ NB170_169.out _; (with_reducible repeat (first | refine blk_drewN ?_ _ | refine blk_drew ?_ | refine blk_alloc ?_ _)); refine blk_far ?_ NB170_169.out _; (with_reducible repeat (first | refine blk_drewN ?_ _ | refine blk_drew ?_ | refine blk_alloc ?_ _)); refine blk_far ?_ NB170_169.out _; (with_reducible repeat (first | refine blk_drewN ?_ _ | refine blk_drew ?_ | refine blk_alloc ?_ _)); refine blk_far ?_ NB170_169.out _; (with_reducible repeat (first | refine blk_drewN ?_ _ | refine blk_drew ?_ | refine blk_alloc ?_ _)); refine blk_far ?_ NB170_169.out _; (with_reducible repeat (first | refine blk_drewN ?_ _ | refine blk_drew ?_ | refine blk_alloc ?_ _)); refine blk_far ?_ NB170_169.out _; (with_reducible repeat (first | refine blk_drewN ?_ _ | refine blk_drew ?_ | refine blk_alloc ?_ _)); refine blk_far ?_ NB170_169.out _; (with_reducible repeat (first | refine blk_drewN ?_ _ | refine blk_drew ?_ | refine blk_alloc ?_ _)); refine blk_far ?_ NB170_169.out _; (with_reducible repeat (first | refine blk_drewN ?_ _ | refine blk_drew ?_ | refine blk_alloc ?_ _)); refine blk_far ?_ NB170_169.out _; (with_reducible repeat (first | refine blk_drewN ?_ _ | refine blk_drew ?_ | refine blk_alloc ?_ _)); exact BK170.out))⟩; have n2_ : Aside0 (Below w.heap.size w w26) := ⟨(by rw [hw]; exact (by repeat (first | (with_reducible first | exact HB.out | apply below_alloc | apply pw_below_drewN | apply below_drew1 | refine below_set ?_ GE169.out | refine below_set ?_ GE170.out) | exact HB.out)))⟩; clear hw; clear BK169; clear BK170; clear HB; have BK169 := n0_; have BK170 := n1_; have HB := n2_; clear n0_ n1_ n2_))
        refine bodyPost_ret (results_cell_row rfl _ _ gb169 45 #[.int .i64 0, .int .i64 0, .int .i64 0, .int .u64 a0, .int .i64 x171004_1, .int .i64 x171005_1, .int .i64 x171006_1, .int .i64 x171007_1, .int .i64 x171008_1, .int .i64 (-1)] (0, 0) _ rfl (by (with_reducible repeat (first | refine blk_drewN ?_ _ | refine blk_drew ?_ | refine blk_alloc ?_ _)); exact BK169.out) Try.underlying45 rfl (by kernel_rfl)) rfl ?_
        exact ⟨by first | rfl | (simp [errW_none, errW_some] <;> rfl) | (simp [*, errW_none, errW_some] <;> rfl), by repeat (first | (with_reducible first | exact HB.out | apply below_alloc | apply pw_below_drewN | apply below_drew1 | refine below_set ?_ GE169.out | refine below_set ?_ GE170.out) | exact HB.out)⟩

/-! ### cards_odd: function 93 -/
def cards_odd.f (a0 : Int) : Option (Bool) := if a0 < (-1) then (some true) else (some (decide (a0 ≥ 96)))
set_option maxHeartbeats 8000000 in
set_option maxRecDepth 100000 in
theorem cards_odd.calls (a0 : Int) (r : Bool) (w : World) (h : cards_odd.f a0 = some r) :
    Calls Try.prog 93 #[.int .i64 a0] w fun e w' => e = .returned (.bool r) ∧ Drawn0 w w' := by
  have H : (if a0 < (-1) then (some true) else (some (decide (a0 ≥ 96)))) = some r := h
  clear h
  by_cases c2 : a0 < (-1)
  · rw [if_pos c2] at H
    have c2b0 : decide (a0 < (-1)) = true := decide_eq_true c2
    clear c2
    obtain rfl := Option.some.inj H
    go_enter Try.func93, Try.ntmps93
    go_wp2
    go_ret
    exact ⟨by first | rfl | (simp; done) | (simp [*]; done), by repeat (first | exact Drawn0.refl _ | apply Drawn0.step)⟩
  · rw [if_neg c2] at H
    have c2b0 : decide (a0 < (-1)) = false := decide_eq_false c2
    clear c2
    obtain rfl := Option.some.inj H
    go_enter Try.func93, Try.ntmps93
    go_wp2
    go_ret
    exact ⟨by first | rfl | (simp; done) | (simp [*]; done), by repeat (first | exact Drawn0.refl _ | apply Drawn0.step)⟩

end Go.Proofs.Ytkbhilhefnahpaa.Print
