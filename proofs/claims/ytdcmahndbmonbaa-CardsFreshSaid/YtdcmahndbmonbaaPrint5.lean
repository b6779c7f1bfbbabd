import Derived.Test.YtdcmahndbmonbaaPrint0
import Derived.Test.YtdcmahndbmonbaaPrint3
import Derived.Test.YtdcmahndbmonbaaPrint4
namespace Go.Proofs.Ytdcmahndbmonbaa.Print
open Go.RowKit Go.Proofs.YtdcmahndbmonbaaW.PrintWords Go.Proofs.YtdcmahndbmonbaaW.PrintLast Go.Proofs.YtdcmahndbmonbaaW.PrintMore
attribute [local go_sem] max2_int min2_int max_two min_two max_three min_three max_four min_four   -- for this text's walks alone
set_option linter.unusedVariables false
set_option linter.unusedSimpArgs false

/-! ### cards_Read: function 14 -/
mutual
def cards_Read.l0 : Nat → List Int → List Int → List (S45) → Int → Int → Option (Int × Int × Int × Int × Int × Int × Int × Int × Int × Int × Int)
  | 0, _, _, _, _, _ => none
  | k + 1, x0, x4, x17, x18, x19 => if x19 < x18 then (if 0 ≤ x19 then (if x19 < (x17.length : Int) then (if 0 ≤ ((rd_T45 x17 x19).f0) then (if ((rd_T45 x17 x19).f0) < (x0.length : Int) then ((words_Get.f (rd x0 ((rd_T45 x17 x19).f0)) ((rd_T45 x17 x19).f1) ((rd_T45 x17 x19).f2)).bind fun bt140 => (if x4.length < 17592186044416 then (cards_Read.l0 k x0 (x4 ++ [wrap64 (bt140.1)]) x17 x18 (wrap64 (x19 + 1))) else (none))) else (none)) else (none)) else (none)) else (none)) else (if 0 < (x4.length : Int) then (if 1 < (x4.length : Int) then (if 2 < (x4.length : Int) then (if 1 < (x0.length : Int) then (if 0 ≤ (wrap64 ((x4.length : Int) - 1)) then (if (wrap64 ((x4.length : Int) - 1)) < (x4.length : Int) then (cards_Read.l1 k x0 x4 0 (rd x4 0) (rd x4 1) (rd x4 2) (rd x0 1) 0 0 0 0 0 (wrap64 ((rd x4 (wrap64 ((x4.length : Int) - 1))) - 1))) else (none)) else (none)) else (none)) else (none)) else (none)) else (none))
def cards_Read.l1 : Nat → List Int → List Int → Int → Int → Int → Int → Int → Int → Int → Int → Int → Int → Int → Option (Int × Int × Int × Int × Int × Int × Int × Int × Int × Int × Int)
  | 0, _, _, _, _, _, _, _, _, _, _, _, _, _ => none
  | k + 1, x0, x4, x62, x151000, x151001, x151002, x151003, x151004, x151005, x151006, x151007, x151008, x151009 => if x62 < 5 then (if 0 ≤ (wrap64 (3 + x62)) then (if (wrap64 (3 + x62)) < (x4.length : Int) then (if x62 = 0 then (cards_Read.l1 k x0 x4 (wrap64 (x62 + 1)) x151000 x151001 x151002 x151003 (wrap64 ((rd x4 (wrap64 (3 + x62))) - 1)) x151005 x151006 x151007 x151008 x151009) else (if x62 = 1 then (cards_Read.l1 k x0 x4 (wrap64 (x62 + 1)) x151000 x151001 x151002 x151003 x151004 (wrap64 ((rd x4 (wrap64 (3 + x62))) - 1)) x151006 x151007 x151008 x151009) else (if x62 = 2 then (cards_Read.l1 k x0 x4 (wrap64 (x62 + 1)) x151000 x151001 x151002 x151003 x151004 x151005 (wrap64 ((rd x4 (wrap64 (3 + x62))) - 1)) x151007 x151008 x151009) else (if x62 = 3 then (cards_Read.l1 k x0 x4 (wrap64 (x62 + 1)) x151000 x151001 x151002 x151003 x151004 x151005 x151006 (wrap64 ((rd x4 (wrap64 (3 + x62))) - 1)) x151008 x151009) else (if x62 = 4 then (cards_Read.l1 k x0 x4 (wrap64 (x62 + 1)) x151000 x151001 x151002 x151003 x151004 x151005 x151006 x151007 (wrap64 ((rd x4 (wrap64 (3 + x62))) - 1)) x151009) else (none)))))) else (none)) else (none)) else ((cards_Write.f k x151000 x151001 x151002 x151003 x151004 x151005 x151006 x151007 x151008 x151009).bind fun bt152 => (if bt152.2 = 0 then ((slices_Equal_uint64_uint64.f k bt152.1 x0).bind fun t156 => (if t156 = true then (some (x151000, x151001, x151002, x151003, x151004, x151005, x151006, x151007, x151008, x151009, 0)) else (some (0, 0, 0, 0, 0, 0, 0, 0, 0, 0, 15)))) else (some (0, 0, 0, 0, 0, 0, 0, 0, 0, 0, 15))))
end
def cards_Read.f (k : Nat) (l0 : List Int) : Option (Int × Int × Int × Int × Int × Int × Int × Int × Int × Int × Int) := if (l0.length : Int) = 8 then ((cards_fields.f k).bind fun t134 => (cards_Read.l0 k l0 ([] : List Int) t134 (t134.length : Int) 0)) else (some (0, 0, 0, 0, 0, 0, 0, 0, 0, 0, 15))
def cards_Read.T7 : Bool × List (List Nat × List Nat) := (true, [([], []), ([], []), ([1], [1]), ([0, 2], [0, 2]), ([3], [3]), ([], []), ([5], [5]), ([], []), ([7], [7]), ([4, 6, 8], [4, 6, 8]), ([9], [9]), ([10], [10]), ([10], [10]), ([11, 9, 0, 1, 2, 3, 4, 5, 6, 7, 8, 9, 10, 11], [11]), ([12, 13, 0, 1, 2, 3, 4, 5, 6, 7, 8, 9, 10, 11, 12, 13], [12])])
def cards_Read.B7 : List Nat := [0, 0, 2, 7, 15, 0, 32, 0, 128, 511, 1023, 2047, 2047, 4095, 16383]
theorem cards_Read.tab7 : rtab .any (opsOf Try.f14 7) = cards_Read.T7 := by kernel_rfl
theorem cards_Read.bits7 : waitsOk cards_Read.T7.2 cards_Read.B7 = true := by kernel_rfl
def cards_Read.T10 : Bool × List (List Nat × List Nat) := (true, [([], []), ([0], [0]), ([1], [1]), ([], []), ([3], [3]), ([4], [4]), ([], []), ([6], [6]), ([7], [7]), ([], []), ([9], [9]), ([10], [10]), ([], []), ([], []), ([13], [13]), ([14], [14]), ([12, 15], [12, 15]), ([16], [16]), ([17], [17]), ([2, 5, 8, 11, 18], [2, 5, 8, 11, 18]), ([], []), ([20, 19, 0, 1, 2, 3, 4, 5, 6, 7, 8, 9, 10, 11, 12, 13, 14, 15, 16, 17, 18, 19, 20], [19, 20])])
def cards_Read.B10 : List Nat := [0, 1, 3, 0, 8, 24, 0, 64, 192, 0, 512, 1536, 0, 0, 8192, 24576, 61440, 126976, 258048, 524287, 0, 2097151]
theorem cards_Read.tab10 : rtab .any (opsOf Try.f14 10) = cards_Read.T10 := by kernel_rfl
theorem cards_Read.bits10 : waitsOk cards_Read.T10.2 cards_Read.B10 = true := by kernel_rfl
set_option maxHeartbeats 8000000 in
set_option maxRecDepth 100000 in
theorem cards_Read.calls (k : Nat) (A0 : Option Addr) (c0 : Nat) (l0 : List Int) (r1 : Int) (r2 : Int) (r3 : Int) (r4 : Int) (r5 : Int) (r6 : Int) (r7 : Int) (r8 : Int) (r9 : Int) (r10 : Int) (r11 : Int) (w : World) (hr0 : Kd.C (Kd.int .u64) w A0 l0.length l0) (hc0 : l0.length ≤ c0) (h : cards_Read.f k l0 = some (r1, r2, r3, r4, r5, r6, r7, r8, r9, r10, r11)) :
    Calls Try.prog 14 #[.slice A0 l0.length c0] w fun e w' => e = .returned (.tuple #[.agg #[.int .i64 r1, .int .i64 r2, .int .i64 r3, .int .u64 r4, .int .i64 r5, .int .i64 r6, .int .i64 r7, .int .i64 r8, .int .i64 r9, .int .i64 r10], .int .i64 r11]) ∧ Below w.heap.size w w' := by
  have hu25 := Try.underlying25
  have hu45 := Try.underlying45
  have HR0 := Aside0.mk hr0
  have HC0 := Aside0.mk hc0
  clear hr0 hc0
  have HB := Aside0.mk (Below.refl w.heap.size w)
  have H : (if (l0.length : Int) = 8 then ((cards_fields.f k).bind fun t134 => (cards_Read.l0 k l0 ([] : List Int) t134 (t134.length : Int) 0)) else (some (0, 0, 0, 0, 0, 0, 0, 0, 0, 0, 15))) = some (r1, r2, r3, r4, r5, r6, r7, r8, r9, r10, r11) := h
  clear h
  by_cases c2 : (l0.length : Int) = 8
  · rw [if_pos c2] at H
    have c2b0 : ((l0.length : Int) == 8) = true := beq_iff_eq.mpr c2
    have c2b1 : ((l0.length : Int) != 8) = false := bne_eq_false_iff_eq.mpr c2
    clear c2
    replace H := Option.bind_eq_some_iff.mp H
    obtain ⟨t134, A30, H⟩ := H
    replace H : (cards_Read.l0 k l0 ([] : List Int) t134 (t134.length : Int) 0) = some (r1, r2, r3, r4, r5, r6, r7, r8, r9, r10, r11) := H
    have A3 := Aside0.mk A30
    clear A30
    have H' := Aside0.mk H
    clear H
    go_enter Try.func14, Try.ntmps14
    go_wp2_with (first | ((with_reducible refine gate_dst (N := 2) rfl ?_); refine box_event ?hg (N := 2) ?hd (cs := #[.int .i64 0, .int .i64 0, .int .i64 0, .int .u64 0, .int .i64 0, .int .i64 0, .int .i64 0, .int .i64 0, .int .i64 0, .int .i64 0]) (t := 25) ?hr ?_; (case hd => rfl); (case hg => rfl); (case hr => first | (go_simp; done) | (go_simp; rfl)); intro gb133 hg w4 hbox hb; have n0_ := Aside0.mk (below_step (by repeat (first | (with_reducible first | exact HB.out | apply below_alloc | apply pw_below_drewN | apply below_drew1) | exact HB.out)) hb); have n1_ := Aside0.mk (hbox); have n2_ := Aside0.mk ((by rw [hg]; exact (below_size (by repeat (first | (with_reducible first | exact HB.out | apply below_alloc | apply pw_below_drewN | apply below_drew1) | exact HB.out))) : w.heap.size ≤ gb133)); have n3_ := Aside0.mk ((by rw [hg]; exact (below_size (by repeat (first | (with_reducible first | exact HB.out | apply below_alloc | apply pw_below_drewN | apply below_drew1) | exact HB.out))) : w.heap.size ≤ gb133)); clear HB; have HB := n0_; have BK133 := n1_; have GW133 := n2_; have GE133 := n3_; clear n0_ n1_ n2_ n3_; clear hb hbox hg) | ((with_reducible refine gate_callee (f := 21) rfl ?_); refine goesL_ (some 17) rfl rfl Try.func21 (by kernel_rfl) rfl #[] rfl (by (try simp only [List.map_toArray, List.map_cons, List.map_nil]); first | done | rfl | (simp only [List.length_drop, List.length_take]; rfl)) ?_; (with_reducible refine (cards_fields.calls k  t134 _ A3.out).mono ?_); rintro e w5 ⟨v135, rfl, ho0, hb⟩; refine ⟨_, rfl, ?_⟩; have n0_ := Aside0.mk (Kd.R_lower ho0 (below_size (by repeat (first | (with_reducible first | exact HB.out | apply below_alloc | apply pw_below_drewN | apply below_drew1 | refine below_set ?_ GE133.out) | exact HB.out)))); have n1_ := Aside0.mk (blk_below (g := gb133) (o := .cells #[.int .i64 0, .int .i64 0, .int .i64 0, .int .u64 0, .int .i64 0, .int .i64 0, .int .i64 0, .int .i64 0, .int .i64 0, .int .i64 0] 25 (0, 0)) (by (with_reducible repeat (first | refine blk_drewN ?_ _ | refine blk_drew ?_ | refine blk_alloc ?_ _)); exact BK133.out) hb); have n2_ := Aside0.mk (below_step (by repeat (first | (with_reducible first | exact HB.out | apply below_alloc | apply pw_below_drewN | apply below_drew1 | refine below_set ?_ GE133.out) | exact HB.out)) hb); clear BK133; clear HB; have HO136 := n0_; have BK133 := n1_; have HB := n2_; clear n0_ n1_ n2_; (try clear hb); (try clear hb2); (try clear hk); (try clear hi); (try clear ho0); obtain ⟨Ao6, co6, eo6⟩ := Kd.R_slice HO136.out; subst eo6))
    go_loopg [4, 19] k (fun kq v4 v19 w' => ∃ (x4_1 : List Int) (x19_1 : Int), v19 = .int .i64 x19_1 ∧ Aside0 (cards_Read.l0 kq l0 x4_1 t134 (t134.length : Int) x19_1 = some (r1, r2, r3, r4, r5, r6, r7, r8, r9, r10, r11)) ∧ Aside0 (kq ≤ k) ∧ Aside0 (Kd.R (Kd.int .i64) 3 w' w.heap.size (fun _ => True) v4 x4_1) ∧ Aside0 (Kd.R k45 45 w' w.heap.size (fun _ => True) (.slice Ao6 t134.length co6) t134) ∧ Aside0 (w'.heap[gb133]? = some (.cells #[.int .i64 0, .int .i64 0, .int .i64 0, .int .u64 0, .int .i64 0, .int .i64 0, .int .i64 0, .int .i64 0, .int .i64 0, .int .i64 0] 25 (0, 0))) ∧ Aside0 (Below w.heap.size w w'))
    case atStart => exact ⟨(([] : List Int)), (0), (by first | rfl | (simp; done) | (simp [*]; done) | kernel_rfl), H', ⟨Nat.le_refl _⟩, ⟨by first | exact Kd.R_nil _ _ _ _ _ | exact Kd.N_nil _ _ _ _ _ | exact Kd.V_nil _ _ _ _ _ | exact Kd.Q_nil _ _ _ _ _ | exact Kd.S_nil _ _ _ _ _⟩, ⟨by (with_reducible repeat (first | apply Kd.R_alloc | apply Kd.R_drewN | apply Kd.R_drew)); exact HO136.out⟩, ⟨by (with_reducible repeat (first | refine blk_drewN ?_ _ | refine blk_drew ?_ | refine blk_alloc ?_ _)); exact BK133.out⟩, ⟨by repeat (first | (with_reducible first | exact HB.out | apply below_alloc | apply pw_below_drewN | apply below_drew1 | refine below_set ?_ GE133.out) | exact HB.out)⟩⟩
    case round =>
      clear H'
      try clear c1
      try clear c2
      try clear c2b0
      try clear c2b1
      try clear p2
      obtain ⟨x4_1, x19_1, rfl, HA, HK1, HO_4, HO_17, BK133, HB⟩ := hrel
      cases gk with
      | zero => exact absurd HA.out (by simp [cards_Read.l0])
      | succ k1 =>
        have H := HA.out
        clear HA
        simp only [cards_Read.l0] at H
        by_cases c7 : x19_1 < (t134.length : Int)
        · rw [if_pos c7] at H
          have c7b0 : decide (x19_1 < (t134.length : Int)) = true := decide_eq_true c7
          clear c7
          by_cases c8 : 0 ≤ x19_1
          · rw [if_pos c8] at H
            have c8b0 : decide (0 ≤ x19_1) = true := decide_eq_true c8
            clear c8
            by_cases c9 : x19_1 < (t134.length : Int)
            · rw [if_pos c9] at H
              have c9b0 : decide (x19_1 < (t134.length : Int)) = true := decide_eq_true c9
              clear c9
              by_cases c10 : 0 ≤ ((rd_T45 t134 x19_1).f0)
              · rw [if_pos c10] at H
                have c10b0 : decide (0 ≤ ((rd_T45 t134 x19_1).f0)) = true := decide_eq_true c10
                clear c10
                by_cases c11 : ((rd_T45 t134 x19_1).f0) < (l0.length : Int)
                · rw [if_pos c11] at H
                  have c11b0 : decide (((rd_T45 t134 x19_1).f0) < (l0.length : Int)) = true := decide_eq_true c11
                  clear c11
                  replace H := Option.bind_eq_some_iff.mp H
                  obtain ⟨⟨t140, t141⟩, A120, H⟩ := H
                  replace H : (if x4_1.length < 17592186044416 then (cards_Read.l0 k1 l0 (x4_1 ++ [wrap64 (t140)]) t134 (t134.length : Int) (wrap64 (x19_1 + 1))) else (none)) = some (r1, r2, r3, r4, r5, r6, r7, r8, r9, r10, r11) := H
                  have A12 := Aside0.mk A120
                  clear A120
                  by_cases c13 : x4_1.length < 17592186044416
                  · rw [if_pos c13] at H
                    have LMc13 := Aside0.mk c13
                    clear c13
                    obtain ⟨y142, hy142⟩ : ∃ y_ : List Int, y_ = (x4_1 ++ [wrap64 (t140)]) := ⟨_, rfl⟩
                    replace H : (cards_Read.l0 k1 l0 y142 t134 (t134.length : Int) (wrap64 (x19_1 + 1))) = some (r1, r2, r3, r4, r5, r6, r7, r8, r9, r10, r11) := by first | (rw [hy142]; with_reducible exact H) | (have H2_ := (Option.bind_some _ _).symm.trans H; rw [hy142]; with_reducible exact H2_) | (have H2_ := (Option.bind_some _ _).symm.trans H; with_reducible exact H2_) | with_reducible exact H | (rw [hy142]; exact H) | exact H
                    have Ny142 := Aside0.mk hy142
                    clear hy142
                    have H' := Aside0.mk H
                    clear H
                    have p137 : 0 ≤ (x19_1 : Int) := of_decide_eq_true (by first | (with_reducible assumption) | assumption)
                    have q137 : x19_1 < (t134.length : Int) := of_decide_eq_true (by first | (with_reducible assumption) | assumption)
                    obtain ⟨ad137, e137, hx137_0, hx137_1, hx137_2⟩ := at_T45 (Kd.R_reads' HO_17.out).2.2 x19_1 p137 q137
                    cases e137
                    replace p137 := eq_true p137
                    replace q137 := eq_true q137
                    try go_wp2_with (first | ((with_reducible refine gate_dst (N := 6) rfl ?_); refine box_event ?hg (N := 6) ?hd (cs := #[.int .i64 0, .int .i64 0, .int .i64 0]) (t := 45) ?hr ?_; (case hd => rfl); (case hg => rfl); (case hr => first | (go_simp; done) | (go_simp; rfl)); intro gb138 hg w14 hbox hb; have n0_ := Aside0.mk (Kd.R_below (by (with_reducible repeat (first | apply Kd.R_alloc | apply Kd.R_drewN | apply Kd.R_drew)); exact HO_4.out) hb); have n1_ := Aside0.mk (Kd.R_below (Kd.R_elderB (by (with_reducible repeat (first | apply Kd.R_alloc | apply Kd.R_drewN | apply Kd.R_drew)); exact HO_17.out) gb138 (Nat.le_of_eq hg.symm)) hb); have n2_ := Aside0.mk (blk_below (g := gb133) (o := .cells #[.int .i64 0, .int .i64 0, .int .i64 0, .int .u64 0, .int .i64 0, .int .i64 0, .int .i64 0, .int .i64 0, .int .i64 0, .int .i64 0] 25 (0, 0)) (by (with_reducible repeat (first | refine blk_drewN ?_ _ | refine blk_drew ?_ | refine blk_alloc ?_ _)); exact BK133.out) hb); have n3_ := Aside0.mk (below_step (by repeat (first | (with_reducible first | exact HB.out | apply below_alloc | apply pw_below_drewN | apply below_drew1 | refine below_set ?_ GE133.out) | exact HB.out)) hb); have n4_ := Aside0.mk (hbox); have n5_ := Aside0.mk ((by rw [hg]; exact (below_size (by repeat (first | (with_reducible first | exact HB.out | apply below_alloc | apply pw_below_drewN | apply below_drew1 | refine below_set ?_ GE133.out) | exact HB.out))) : w.heap.size ≤ gb138)); have n6_ := Aside0.mk ((by rw [hg]; exact (below_size (by repeat (first | (with_reducible first | exact HB.out | apply below_alloc | apply pw_below_drewN | apply below_drew1 | refine below_set ?_ GE133.out) | exact HB.out))) : w.heap.size ≤ gb138)); have n7_ := Aside0.mk ((by rw [hg]; exact Nat.ne_of_lt (blk_lt (g := gb133) (o := .cells #[.int .i64 0, .int .i64 0, .int .i64 0, .int .u64 0, .int .i64 0, .int .i64 0, .int .i64 0, .int .i64 0, .int .i64 0, .int .i64 0] 25 (0, 0)) (by (with_reducible repeat (first | refine blk_drewN ?_ _ | refine blk_drew ?_ | refine blk_alloc ?_ _)); exact BK133.out)) : gb133 ≠ gb138)); have n8_ := Aside0.mk ((by rw [hg]; exact Nat.ne_of_gt (blk_lt (g := gb133) (o := .cells #[.int .i64 0, .int .i64 0, .int .i64 0, .int .u64 0, .int .i64 0, .int .i64 0, .int .i64 0, .int .i64 0, .int .i64 0, .int .i64 0] 25 (0, 0)) (by (with_reducible repeat (first | refine blk_drewN ?_ _ | refine blk_drew ?_ | refine blk_alloc ?_ _)); exact BK133.out)) : gb138 ≠ gb133)); clear HO_4; clear HO_17; clear BK133; clear HB; have HO_4 := n0_; have HO_17 := n1_; have BK133 := n2_; have HB := n3_; have BK138 := n4_; have GW138 := n5_; have GE138 := n6_; have NB133_138 := n7_; have NB138_133 := n8_; clear n0_ n1_ n2_ n3_ n4_ n5_ n6_ n7_ n8_; clear hb hbox hg; have hnb15 := NB138_133.out; have hnc15 := NB133_138.out; have hcz16_0 : w14.cell? ⟨gb138, 0, none⟩ = some (.int .i64 0) := (blk_cell BK138.out 0).trans rfl; have hcz16_1 : w14.cell? ⟨gb138, 1, none⟩ = some (.int .i64 0) := (blk_cell BK138.out 1).trans rfl; have hcz16_2 : w14.cell? ⟨gb138, 2, none⟩ = some (.int .i64 0) := (blk_cell BK138.out 2).trans rfl; have hfz16_0 := blk_frozen BK138.out 0; have hfz16_1 := blk_frozen BK138.out 1; have hfz16_2 := blk_frozen BK138.out 2))
                    have n0_ : Aside0 (Kd.R (Kd.int .i64) 3 (((w14.setCell ⟨gb138, 0, none⟩ (.int .i64 ((rd_T45 t134 x19_1).f0))).setCell ⟨gb138, 1, none⟩ (.int .i64 ((rd_T45 t134 x19_1).f1))).setCell ⟨gb138, 2, none⟩ (.int .i64 ((rd_T45 t134 x19_1).f2))) w.heap.size (fun _ => True) u4 x4_1) := ⟨by (with_reducible repeat (first | apply Kd.R_alloc | apply Kd.R_drewN | apply Kd.R_drew)); exact Kd.R_mono (Kd.R_far (p := ⟨gb138, 2, none⟩) (Kd.R_far (p := ⟨gb138, 1, none⟩) (Kd.R_far (p := ⟨gb138, 0, none⟩) (Kd.R_types HO_4.out BK138.out (by decide)) (fun _ hk => hk.2) (.int .i64 ((rd_T45 t134 x19_1).f0))) (fun _ hk => hk.2) (.int .i64 ((rd_T45 t134 x19_1).f1))) (fun _ hk => hk.2) (.int .i64 ((rd_T45 t134 x19_1).f2))) (fun _ hk => trivial)⟩
                    have n1_ : Aside0 (Kd.R k45 45 (((w14.setCell ⟨gb138, 0, none⟩ (.int .i64 ((rd_T45 t134 x19_1).f0))).setCell ⟨gb138, 1, none⟩ (.int .i64 ((rd_T45 t134 x19_1).f1))).setCell ⟨gb138, 2, none⟩ (.int .i64 ((rd_T45 t134 x19_1).f2))) w.heap.size (fun k_ => k_ ≠ gb138) (.slice (some ad137) t134.length co6) t134) := ⟨by (with_reducible repeat (first | apply Kd.R_alloc | apply Kd.R_drewN | apply Kd.R_drew)); exact Kd.R_mono (Kd.R_far (p := ⟨gb138, 2, none⟩) (Kd.R_far (p := ⟨gb138, 1, none⟩) (Kd.R_far (p := ⟨gb138, 0, none⟩) (Kd.R_mono HO_17.out (fun k_ hk => (⟨hk, hk.2⟩ : _ ∧ k_ ≠ gb138))) (fun _ hk => hk.2) (.int .i64 ((rd_T45 t134 x19_1).f0))) (fun _ hk => hk.2) (.int .i64 ((rd_T45 t134 x19_1).f1))) (fun _ hk => hk.2) (.int .i64 ((rd_T45 t134 x19_1).f2))) (fun _ hk => hk.1.2)⟩
                    have n2_ : Aside0 ((((w14.setCell ⟨gb138, 0, none⟩ (.int .i64 ((rd_T45 t134 x19_1).f0))).setCell ⟨gb138, 1, none⟩ (.int .i64 ((rd_T45 t134 x19_1).f1))).setCell ⟨gb138, 2, none⟩ (.int .i64 ((rd_T45 t134 x19_1).f2))).heap[gb133]? = some (.cells #[.int .i64 0, .int .i64 0, .int .i64 0, .int .u64 0, .int .i64 0, .int .i64 0, .int .i64 0, .int .i64 0, .int .i64 0, .int .i64 0] 25 (0, 0))) := ⟨by (with_reducible repeat (first | refine blk_drewN ?_ _ | refine blk_drew ?_ | refine blk_alloc ?_ _)); refine blk_far ?_ NB133_138.out _; (with_reducible repeat (first | refine blk_drewN ?_ _ | refine blk_drew ?_ | refine blk_alloc ?_ _)); refine blk_far ?_ NB133_138.out _; (with_reducible repeat (first | refine blk_drewN ?_ _ | refine blk_drew ?_ | refine blk_alloc ?_ _)); refine blk_far ?_ NB133_138.out _; (with_reducible repeat (first | refine blk_drewN ?_ _ | refine blk_drew ?_ | refine blk_alloc ?_ _)); exact BK133.out⟩
                    have n3_ : Aside0 ((((w14.setCell ⟨gb138, 0, none⟩ (.int .i64 ((rd_T45 t134 x19_1).f0))).setCell ⟨gb138, 1, none⟩ (.int .i64 ((rd_T45 t134 x19_1).f1))).setCell ⟨gb138, 2, none⟩ (.int .i64 ((rd_T45 t134 x19_1).f2))).heap[gb138]? = some (.cells #[.int .i64 ((rd_T45 t134 x19_1).f0), .int .i64 ((rd_T45 t134 x19_1).f1), .int .i64 ((rd_T45 t134 x19_1).f2)] 45 (0, 0))) := ⟨by (with_reducible repeat (first | refine blk_drewN ?_ _ | refine blk_drew ?_ | refine blk_alloc ?_ _)); refine blk_put (cs := #[.int .i64 ((rd_T45 t134 x19_1).f0), .int .i64 ((rd_T45 t134 x19_1).f1), .int .i64 0]) ?_ 2 _ rfl; (with_reducible repeat (first | refine blk_drewN ?_ _ | refine blk_drew ?_ | refine blk_alloc ?_ _)); refine blk_put (cs := #[.int .i64 ((rd_T45 t134 x19_1).f0), .int .i64 0, .int .i64 0]) ?_ 1 _ rfl; (with_reducible repeat (first | refine blk_drewN ?_ _ | refine blk_drew ?_ | refine blk_alloc ?_ _)); refine blk_put (cs := #[.int .i64 0, .int .i64 0, .int .i64 0]) ?_ 0 _ rfl; (with_reducible repeat (first | refine blk_drewN ?_ _ | refine blk_drew ?_ | refine blk_alloc ?_ _)); exact BK138.out⟩
                    have n4_ : Aside0 (Below w.heap.size w (((w14.setCell ⟨gb138, 0, none⟩ (.int .i64 ((rd_T45 t134 x19_1).f0))).setCell ⟨gb138, 1, none⟩ (.int .i64 ((rd_T45 t134 x19_1).f1))).setCell ⟨gb138, 2, none⟩ (.int .i64 ((rd_T45 t134 x19_1).f2)))) := ⟨by repeat (first | (with_reducible first | exact HB.out | apply below_alloc | apply pw_below_drewN | apply below_drew1 | refine below_set ?_ GE133.out | refine below_set ?_ GE138.out) | exact HB.out)⟩
                    (try clear HO_4)
                    (try clear HO_17)
                    (try clear BK133)
                    (try clear BK138)
                    (try clear HB)
                    generalize (((w14.setCell ⟨gb138, 0, none⟩ (.int .i64 ((rd_T45 t134 x19_1).f0))).setCell ⟨gb138, 1, none⟩ (.int .i64 ((rd_T45 t134 x19_1).f1))).setCell ⟨gb138, 2, none⟩ (.int .i64 ((rd_T45 t134 x19_1).f2))) = w17 at n0_ n1_ n2_ n3_ n4_ ⊢
                    have HO_4 := n0_
                    have HO_17 := n1_
                    have BK133 := n2_
                    have BK138 := n3_
                    have HB := n4_
                    clear n0_ n1_ n2_ n3_ n4_
                    have n0_ := Aside0.mk (Kd.R_drew HO_4.out)
                    have n1_ := Aside0.mk (Kd.R_drew HO_17.out)
                    have n2_ := Aside0.mk (blk_drew BK133.out)
                    have n3_ := Aside0.mk (blk_drew BK138.out)
                    have n4_ := Aside0.mk (below_drew1 HB.out)
                    clear HO_4
                    clear HO_17
                    clear BK133
                    clear BK138
                    clear HB
                    have HO_4 := n0_
                    have HO_17 := n1_
                    have BK133 := n2_
                    have BK138 := n3_
                    have HB := n4_
                    clear n0_ n1_ n2_ n3_ n4_
                    have p139 : 0 ≤ (((rd_T45 t134 x19_1).f0) : Int) := of_decide_eq_true (by first | (with_reducible assumption) | assumption)
                    have q139 : ((rd_T45 t134 x19_1).f0) < (l0.length : Int) := of_decide_eq_true (by first | (with_reducible assumption) | assumption)
                    obtain ⟨ad139, e139, hx139_0⟩ := Kd.at_int HR0.out ((rd_T45 t134 x19_1).f0) p139 q139
                    have hw139_0 := hx139_0
                    cases e139
                    replace hx139_0 := (HB.out.cell (World.block_lt_of_cell? w _ hx139_0)).trans hx139_0
                    replace p139 := eq_true p139
                    replace q139 := eq_true q139
                    refine start_ (n := 15) (S := fun w' => w'.cell? ⟨gb138, 0, none⟩ = some (.int .i64 ((rd_T45 t134 x19_1).f0)) ∧ w'.cell? ⟨gb138, 1, none⟩ = some (.int .i64 ((rd_T45 t134 x19_1).f1)) ∧ w'.cell? ⟨gb138, 2, none⟩ = some (.int .i64 ((rd_T45 t134 x19_1).f2)) ∧ w'.cell? (ad139.add (((rd_T45 t134 x19_1).f0)).toNat) = some (.int .u64 (rd l0 ((rd_T45 t134 x19_1).f0)))) (ds := []) #[false, false, false, false, false, false, false, false, false, false, false, false, false, false, false] (by kernel_rfl) rfl rfl ⟨(blk_cell BK138.out 0).trans rfl, (blk_cell BK138.out 1).trans rfl, (blk_cell BK138.out 2).trans rfl, ((HB.out.cell (World.block_lt_of_cell? w _ hw139_0)).trans hw139_0)⟩ (fun hHeld => ?_); refine with_tabW cards_Read.tab7 cards_Read.bits7 (fun HT_ HW_ => ?_)
                    generalize w17.drew = w18 at HO_4 HO_17 BK133 BK138 HB hx139_0 hHeld ⊢
                    refine pure_ (i := 0) (N := some 24) (v := ?_) (a' := ?_) #[true, false, false, false, false, false, false, false, false, false, false, false, false, false, false] rfl rfl (any_of HT_.out (by kernel_rfl)) (fun _ _ _ h => h) (Or.inl ⟨by rfl, ?_⟩) ?_ ?_
                    rotate_left
                    · intro w'
                      go_simp
                      with_reducible rfl
                    rotate_left
                    · simp only [Act.put, List.setIfInBounds_toArray, List.set_cons_zero, List.set_cons_succ, i64_w, i32_w]
                      rfl
                    refine pure_ (i := 1) (N := some 25) (v := ?_) (a' := ?_) #[true, true, false, false, false, false, false, false, false, false, false, false, false, false, false] rfl rfl (any_of HT_.out (by kernel_rfl)) (fun _ _ _ h => h) (Or.inl ⟨by rfl, ?_⟩) ?_ ?_
                    rotate_left
                    · intro w'
                      go_simp
                      with_reducible rfl
                    rotate_left
                    · simp only [Act.put, List.setIfInBounds_toArray, List.set_cons_zero, List.set_cons_succ, i64_w, i32_w]
                      rfl
                    refine pure_ (i := 5) (N := some 29) (v := ?_) (a' := ?_) #[true, true, false, false, false, true, false, false, false, false, false, false, false, false, false] rfl rfl (any_of HT_.out (by kernel_rfl)) (fun _ _ _ h => h) (Or.inl ⟨by rfl, ?_⟩) ?_ ?_
                    rotate_left
                    · intro w'
                      go_simp
                      with_reducible rfl
                    rotate_left
                    · simp only [Act.put, List.setIfInBounds_toArray, List.set_cons_zero, List.set_cons_succ, i64_w, i32_w]
                      rfl
                    refine pure_ (i := 7) (N := some 31) (v := ?_) (a' := ?_) #[true, true, false, false, false, true, false, true, false, false, false, false, false, false, false] rfl rfl (any_of HT_.out (by kernel_rfl)) (fun _ _ _ h => h) (Or.inl ⟨by rfl, ?_⟩) ?_ ?_
                    rotate_left
                    · intro w'
                      go_simp
                      with_reducible rfl
                    rotate_left
                    · simp only [Act.put, List.setIfInBounds_toArray, List.set_cons_zero, List.set_cons_succ, i64_w, i32_w]
                      rfl
                    refine take_ (i := 2) (N := some 26) (v := ?_) (a' := ?_) #[true, true, true, false, false, true, false, true, false, false, false, false, false, false, false] rfl rfl (take_ofW HT_.out HW_.out (by kernel_rfl)) (fun _ _ _ h => h) (Or.inl ⟨by rfl, ?_⟩) hHeld ?_ ?_
                    rotate_left
                    · rintro w' ⟨s0, s1, s2, s3⟩
                      go_simp
                      with_reducible rfl
                    rotate_left
                    · simp only [Act.put, List.setIfInBounds_toArray, List.set_cons_zero, List.set_cons_succ, i64_w, i32_w]
                      rfl
                    refine pure_ (i := 3) (N := some 27) (v := ?_) (a' := ?_) #[true, true, true, true, false, true, false, true, false, false, false, false, false, false, false] rfl rfl (any_of HT_.out (by kernel_rfl)) (fun _ _ _ h => h) (Or.inl ⟨by rfl, ?_⟩) ?_ ?_
                    rotate_left
                    · intro w'
                      go_simp
                      with_reducible rfl
                    rotate_left
                    · simp only [Act.put, List.setIfInBounds_toArray, List.set_cons_zero, List.set_cons_succ, i64_w, i32_w]
                      rfl
                    refine take_ (i := 4) (N := some 28) (v := ?_) (a' := ?_) #[true, true, true, true, true, true, false, true, false, false, false, false, false, false, false] rfl rfl (take_ofW HT_.out HW_.out (by kernel_rfl)) (fun _ _ _ h => h) (Or.inl ⟨by rfl, ?_⟩) hHeld ?_ ?_
                    rotate_left
                    · rintro w' ⟨s0, s1, s2, s3⟩
                      go_simp
                      with_reducible rfl
                    rotate_left
                    · simp only [Act.put, List.setIfInBounds_toArray, List.set_cons_zero, List.set_cons_succ, i64_w, i32_w]
                      rfl
                    refine take_ (i := 6) (N := some 30) (v := ?_) (a' := ?_) #[true, true, true, true, true, true, true, true, false, false, false, false, false, false, false] rfl rfl (take_ofW HT_.out HW_.out (by kernel_rfl)) (fun _ _ _ h => h) (Or.inl ⟨by rfl, ?_⟩) hHeld ?_ ?_
                    rotate_left
                    · rintro w' ⟨s0, s1, s2, s3⟩
                      go_simp
                      with_reducible rfl
                    rotate_left
                    · simp only [Act.put, List.setIfInBounds_toArray, List.set_cons_zero, List.set_cons_succ, i64_w, i32_w]
                      rfl
                    refine take_ (i := 8) (N := some 32) (v := ?_) (a' := ?_) #[true, true, true, true, true, true, true, true, true, false, false, false, false, false, false] rfl rfl (take_ofW HT_.out HW_.out (by kernel_rfl)) (fun _ _ _ h => h) (Or.inl ⟨by rfl, ?_⟩) hHeld ?_ ?_
                    rotate_left
                    · rintro w' ⟨s0, s1, s2, s3⟩
                      go_simp
                      with_reducible rfl
                    rotate_left
                    · simp only [Act.put, List.setIfInBounds_toArray, List.set_cons_zero, List.set_cons_succ, i64_w, i32_w]
                      rfl
                    refine one_ (i := 9) (N := some 33) #[true, true, true, true, true, true, true, true, true, true, false, false, false, false, false] rfl rfl (one_of HT_.out (by kernel_rfl)) (by decide) (fun K hK => ?_)
                    refine goes_ Try.func26 (by kernel_rfl) rfl #[.int .u64 (rd l0 ((rd_T45 t134 x19_1).f0)), .int .i64 ((rd_T45 t134 x19_1).f1), .int .i64 ((rd_T45 t134 x19_1).f2)] (by rfl) rfl rfl (by (try simp only [List.map_toArray, List.map_cons, List.map_nil]); first | done | rfl | (simp only [List.length_drop, List.length_take]; rfl)) ?_
                    with_reducible refine (words_Get.calls (rd l0 ((rd_T45 t134 x19_1).f0)) ((rd_T45 t134 x19_1).f1) ((rd_T45 t134 x19_1).f2) t140 t141 _ A12.out).mono ?_
                    rintro e w' ⟨rfl, ⟨nd, rfl⟩⟩
                    refine ⟨_, rfl, ?_⟩
                    refine hK.out _ _ ⟨(blk_cell BK138.out 0).trans rfl, (blk_cell BK138.out 1).trans rfl, (blk_cell BK138.out 2).trans rfl, ((HB.out.cell (World.block_lt_of_cell? w _ hw139_0)).trans hw139_0)⟩ (fun hHeld => ?_)
                    clear hK K
                    refine norm_ (a' := ?_) ?_ ?_
                    rotate_left
                    · show Act.put _ (some 33) _ = _
                      simp only [Act.put, List.setIfInBounds_toArray, List.set_cons_zero, List.set_cons_succ, i64_w, i32_w]
                      rfl
                    refine pure_ (i := 10) (N := some 23) (v := ?_) (a' := ?_) #[true, true, true, true, true, true, true, true, true, true, true, false, false, false, false] rfl rfl (any_of HT_.out (by kernel_rfl)) (fun _ _ _ h => h) (Or.inl ⟨by rfl, ?_⟩) ?_ ?_
                    rotate_left
                    · intro w'
                      go_simp
                      with_reducible rfl
                    rotate_left
                    · simp only [Act.put, List.setIfInBounds_toArray, List.set_cons_zero, List.set_cons_succ, i64_w, i32_w]
                      rfl
                    refine pure_ (i := 11) (N := some 34) (v := ?_) (a' := ?_) #[true, true, true, true, true, true, true, true, true, true, true, true, false, false, false] rfl rfl (any_of HT_.out (by kernel_rfl)) (fun _ _ _ h => h) (Or.inl ⟨by rfl, ?_⟩) ?_ ?_
                    rotate_left
                    · intro w'
                      go_simp
                      with_reducible rfl
                    rotate_left
                    · simp only [Act.put, List.setIfInBounds_toArray, List.set_cons_zero, List.set_cons_succ, i64_w, i32_w]
                      rfl
                    refine pure_ (i := 12) (N := some 35) (v := ?_) (a' := ?_) #[true, true, true, true, true, true, true, true, true, true, true, true, true, false, false] rfl rfl (any_of HT_.out (by kernel_rfl)) (fun _ _ _ h => h) (Or.inl ⟨by rfl, ?_⟩) ?_ ?_
                    rotate_left
                    · intro w'
                      go_simp
                      with_reducible rfl
                    rotate_left
                    · simp only [Act.put, List.setIfInBounds_toArray, List.set_cons_zero, List.set_cons_succ, i64_w, i32_w]
                      rfl
                    refine pure_ (i := 13) (N := some 7) (v := ?_) (a' := ?_) #[true, true, true, true, true, true, true, true, true, true, true, true, true, true, false] rfl rfl (any_of HT_.out (by kernel_rfl)) (fun _ _ _ h => h) (Or.inl ⟨by rfl, ?_⟩) ?_ ?_
                    rotate_left
                    · intro w'
                      go_simp
                      with_reducible rfl
                    rotate_left
                    · simp only [Act.put, List.setIfInBounds_toArray, List.set_cons_zero, List.set_cons_succ, i64_w, i32_w]
                      rfl
                    refine pure_ (i := 14) (N := some 8) (v := ?_) (a' := ?_) #[true, true, true, true, true, true, true, true, true, true, true, true, true, true, true] rfl rfl (any_of HT_.out (by kernel_rfl)) (fun _ _ _ h => h) (Or.inl ⟨by rfl, ?_⟩) ?_ ?_
                    rotate_left
                    · intro w'
                      go_simp
                      with_reducible rfl
                    rotate_left
                    · simp only [Act.put, List.setIfInBounds_toArray, List.set_cons_zero, List.set_cons_succ, i64_w, i32_w]
                      rfl
                    refine done_ (done_of HT_.out (by kernel_rfl)) ?_
                    try go_wp2_with (first | ((with_reducible refine gate_builtin (b := .append) (xs := #[.tmp 36, .tmp 39]) rfl ?_); at_builtin; refine Kd.R_append (Kd.int .i64) (w0 := w) w.heap.size rfl (.tmp 36) (.tmp 39) 42 3 (.int .i64 0) 8 rfl Try.underlying42 info3 rfl (by decide) (by omega) u4 x4_1 (wrap64 (t140)) [.int .i64 (wrap64 (t140))] (fun _ => True) (fun _ => False) rfl rfl ?aP (fun _ hk => hk.elim) ?aF ?aO ?aB ?aS ?aL ?_; (case aP => exact rfl); (case aB => exact (by repeat (first | (with_reducible first | exact HB.out | apply below_alloc | apply pw_below_drewN | apply below_drew1 | refine below_set ?_ GE133.out | refine below_set ?_ GE138.out) | exact HB.out))); (case aF => exact (fun _ _ => trivial)); (case aO => exact (by (with_reducible repeat (first | apply Kd.R_alloc | apply Kd.R_drewN | apply Kd.R_drew)); exact HO_4.out)); (case aS => exact (below_size (by repeat (first | (with_reducible first | exact HB.out | apply below_alloc | apply pw_below_drewN | apply below_drew1 | refine below_set ?_ GE133.out | refine below_set ?_ GE138.out) | exact HB.out)))); (case aL => have := LMc13.out; omega); intro v143 w19 ho hb hg hat; rw [← Ny142.out] at ho; have n0_ := Aside0.mk (Kd.R_over' (by (with_reducible repeat (first | apply Kd.R_alloc | apply Kd.R_drewN | apply Kd.R_drew)); exact HO_17.out) (Kd.R_typed (by (with_reducible repeat (first | apply Kd.R_alloc | apply Kd.R_drewN | apply Kd.R_drew)); exact HO_4.out)) (by decide) hg); have n1_ := Aside0.mk (blk_grown (g := gb133) (o := .cells #[.int .i64 0, .int .i64 0, .int .i64 0, .int .u64 0, .int .i64 0, .int .i64 0, .int .i64 0, .int .i64 0, .int .i64 0, .int .i64 0] 25 (0, 0)) (by (with_reducible repeat (first | refine blk_drewN ?_ _ | refine blk_drew ?_ | refine blk_alloc ?_ _)); exact BK133.out) hg (Kd.R_ne HO_4.out BK133.out (by decide))); have n2_ := Aside0.mk (blk_grown (g := gb138) (o := .cells #[.int .i64 ((rd_T45 t134 x19_1).f0), .int .i64 ((rd_T45 t134 x19_1).f1), .int .i64 ((rd_T45 t134 x19_1).f2)] 45 (0, 0)) (by (with_reducible repeat (first | refine blk_drewN ?_ _ | refine blk_drew ?_ | refine blk_alloc ?_ _)); exact BK138.out) hg (Kd.R_ne HO_4.out BK138.out (by decide))); have n3_ := Aside0.mk (hb); have n4_ := Aside0.mk (ho); clear HO_17; clear BK133; clear BK138; clear HB; clear HO_4; have HO_17 := n0_; have BK133 := n1_; have BK138 := n2_; have HB := n3_; have HO144 := n4_; clear n0_ n1_ n2_ n3_ n4_; clear ho hb hg hat))
                    go_roundg k1
                    case measure => have := HK1.out; omega
                    case rel => exact ⟨(y142), (wrap64 (x19_1 + 1)), (by first | rfl | (simp; done) | (simp [*]; done) | kernel_rfl), H', ⟨by have := HK1.out; omega⟩, ⟨by (with_reducible repeat (first | apply Kd.R_alloc | apply Kd.R_drewN | apply Kd.R_drew)); exact HO144.out⟩, ⟨by (with_reducible repeat (first | apply Kd.R_alloc | apply Kd.R_drewN | apply Kd.R_drew)); exact Kd.R_mono HO_17.out (fun _ hk => trivial)⟩, ⟨by (with_reducible repeat (first | refine blk_drewN ?_ _ | refine blk_drew ?_ | refine blk_alloc ?_ _)); exact BK133.out⟩, ⟨by repeat (first | (with_reducible first | exact HB.out | apply below_alloc | apply pw_below_drewN | apply below_drew1 | refine below_set ?_ GE133.out | refine below_set ?_ GE138.out) | exact HB.out)⟩⟩
                  · rw [if_neg c13] at H
                    exact absurd H (by simp)
                · rw [if_neg c11] at H
                  exact absurd H (by simp)
              · rw [if_neg c10] at H
                exact absurd H (by simp)
            · rw [if_neg c9] at H
              exact absurd H (by simp)
          · rw [if_neg c8] at H
            exact absurd H (by simp)
        · rw [if_neg c7] at H
          have c7b0 : decide (x19_1 < (t134.length : Int)) = false := decide_eq_false c7
          clear c7
          by_cases c20 : 0 < (x4_1.length : Int)
          · rw [if_pos c20] at H
            have c20b0 : decide (0 < (x4_1.length : Int)) = true := decide_eq_true c20
            have c20b1 : decide (0 < x4_1.length) = true := decide_eq_true (by omega)
            clear c20
            by_cases c21 : 1 < (x4_1.length : Int)
            · rw [if_pos c21] at H
              have c21b0 : decide (1 < (x4_1.length : Int)) = true := decide_eq_true c21
              have c21b1 : decide (1 < x4_1.length) = true := decide_eq_true (by omega)
              clear c21
              by_cases c22 : 2 < (x4_1.length : Int)
              · rw [if_pos c22] at H
                have c22b0 : decide (2 < (x4_1.length : Int)) = true := decide_eq_true c22
                have c22b1 : decide (2 < x4_1.length) = true := decide_eq_true (by omega)
                clear c22
                by_cases c23 : 1 < (l0.length : Int)
                · rw [if_pos c23] at H
                  have c23b0 : decide (1 < (l0.length : Int)) = true := decide_eq_true c23
                  have c23b1 : decide (1 < l0.length) = true := decide_eq_true (by omega)
                  clear c23
                  obtain ⟨ji24, hji24⟩ : ∃ j_ : Int, (wrap64 ((x4_1.length : Int) - 1)) = j_ := ⟨_, rfl⟩
                  replace H : (if 0 ≤ (ji24) then (if (ji24) < (x4_1.length : Int) then (cards_Read.l1 k1 l0 x4_1 0 (rd x4_1 0) (rd x4_1 1) (rd x4_1 2) (rd l0 1) 0 0 0 0 0 (wrap64 ((rd x4_1 (ji24)) - 1))) else (none)) else (none)) = some (r1, r2, r3, r4, r5, r6, r7, r8, r9, r10, r11) := by first | (rw [hji24] at H; exact H) | (simp only [hji24] at H ⊢; exact H)
                  have hji24w : (IntKind.i64.wrap ((x4_1.length : Int) - 1)) = ji24 := (i64_w _).trans hji24
                  by_cases c25 : 0 ≤ (ji24)
                  · rw [if_pos c25] at H
                    have c25b0 : decide (0 ≤ (ji24)) = true := decide_eq_true c25
                    clear c25
                    by_cases c26 : (ji24) < (x4_1.length : Int)
                    · rw [if_pos c26] at H
                      have c26b0 : decide ((ji24) < (x4_1.length : Int)) = true := decide_eq_true c26
                      clear c26
                      have H' := Aside0.mk H
                      clear H
                      try go_wp2
                      have n0_ := Aside0.mk (Kd.R_drew HO_4.out)
                      have n1_ := Aside0.mk (Kd.R_drew HO_17.out)
                      have n2_ := Aside0.mk (blk_drew BK133.out)
                      have n3_ := Aside0.mk (below_drew1 HB.out)
                      clear HO_4
                      clear HO_17
                      clear BK133
                      clear HB
                      have HO_4 := n0_
                      have HO_17 := n1_
                      have BK133 := n2_
                      have HB := n3_
                      clear n0_ n1_ n2_ n3_
                      obtain ⟨Ao28, co28, eo28⟩ := Kd.R_slice HO_4.out
                      (first | subst eo28 | (injection eo28 with f1_ f2_ f3_; have f4_ := f1_.symm; have f5_ := f3_.symm; clear f1_ f2_ f3_; subst f4_; subst f5_))
                      have p145 : 0 ≤ (0 : Int) := (by omega)
                      have q145 : 0 < (x4_1.length : Int) := of_decide_eq_true (by first | (with_reducible assumption) | assumption)
                      obtain ⟨ad145, e145, hx145_0⟩ := Kd.at_int (Kd.R_reads' HO_4.out).2.2 0 p145 q145
                      cases e145
                      have qi145 : (0 < x4_1.length) = True := eq_true (by omega)
                      (try rw [show ((0 : Int)).toNat = 0 from rfl] at hx145_0)
                      (try rw [Addr.add_zero'] at hx145_0)
                      replace p145 := eq_true p145
                      replace q145 := eq_true q145
                      have p146 : 0 ≤ (1 : Int) := (by omega)
                      have q146 : 1 < (x4_1.length : Int) := of_decide_eq_true (by first | (with_reducible assumption) | assumption)
                      obtain ⟨ad146, e146, hx146_0⟩ := Kd.at_int (Kd.R_reads' HO_4.out).2.2 1 p146 q146
                      obtain rfl : ad145 = ad146 := (by injection e146)
                      (try simp only [show (1 : Int).toNat = 1 from rfl, Nat.reduceMul, Nat.reduceEqDiff, Go.Addr.add, ↓reduceIte] at hx146_0)
                      have qi146 : (1 < x4_1.length) = True := eq_true (by omega)
                      (try rw [show ((1 : Int)).toNat = 1 from rfl] at hx146_0)
                      replace p146 := eq_true p146
                      replace q146 := eq_true q146
                      have p147 : 0 ≤ (2 : Int) := (by omega)
                      have q147 : 2 < (x4_1.length : Int) := of_decide_eq_true (by first | (with_reducible assumption) | assumption)
                      obtain ⟨ad147, e147, hx147_0⟩ := Kd.at_int (Kd.R_reads' HO_4.out).2.2 2 p147 q147
                      obtain rfl : ad145 = ad147 := (by injection e147)
                      (try simp only [show (2 : Int).toNat = 2 from rfl, Nat.reduceMul, Nat.reduceEqDiff, Go.Addr.add, ↓reduceIte] at hx147_0)
                      have qi147 : (2 < x4_1.length) = True := eq_true (by omega)
                      (try rw [show ((2 : Int)).toNat = 2 from rfl] at hx147_0)
                      replace p147 := eq_true p147
                      replace q147 := eq_true q147
                      have p148 : 0 ≤ (1 : Int) := (by omega)
                      have q148 : 1 < (l0.length : Int) := of_decide_eq_true (by first | (with_reducible assumption) | assumption)
                      obtain ⟨ad148, e148, hx148_0⟩ := Kd.at_int HR0.out 1 p148 q148
                      have hw148_0 := hx148_0
                      (try rw [show ((1 : Int)).toNat = 1 from rfl] at hw148_0)
                      (try rw [show 1 * 1 = 1 from rfl] at hw148_0)
                      (try simp only [Nat.reduceMul, Nat.reduceEqDiff, Go.Addr.add, ↓reduceIte] at hw148_0)
                      cases e148
                      (try simp only [show (1 : Int).toNat = 1 from rfl, Nat.reduceMul, Nat.reduceEqDiff, Go.Addr.add, ↓reduceIte] at hx148_0)
                      have qi148 : (1 < l0.length) = True := eq_true (by omega)
                      (try rw [show ((1 : Int)).toNat = 1 from rfl] at hx148_0)
                      replace hx148_0 := (HB.out.cell (World.block_lt_of_cell? w _ hx148_0)).trans hx148_0
                      replace p148 := eq_true p148
                      replace q148 := eq_true q148
                      have p149 : 0 ≤ ((ji24) : Int) := of_decide_eq_true (by first | (with_reducible assumption) | assumption)
                      have q149 : (ji24) < (x4_1.length : Int) := of_decide_eq_true (by first | (with_reducible assumption) | assumption)
                      obtain ⟨ad149, e149, hx149_0⟩ := Kd.at_int (Kd.R_reads' HO_4.out).2.2 (ji24) p149 q149
                      obtain rfl : ad145 = ad149 := (by injection e149)
                      replace p149 := eq_true p149
                      replace q149 := eq_true q149
                      refine start_ (n := 22) (S := fun w' => w'.cell? ad145 = some (.int .i64 (rd x4_1 0)) ∧ w'.cell? ⟨ad145.block, ad145.off + 1, none⟩ = some (.int .i64 (rd x4_1 1)) ∧ w'.cell? ⟨ad145.block, ad145.off + 2, none⟩ = some (.int .i64 (rd x4_1 2)) ∧ w'.cell? ⟨ad148.block, ad148.off + 1, none⟩ = some (.int .u64 (rd l0 1)) ∧ w'.cell? (ad145.add ((ji24)).toNat) = some (.int .i64 (rd x4_1 (ji24)))) (ds := []) #[false, false, false, false, false, false, false, false, false, false, false, false, false, false, false, false, false, false, false, false, false, false] (by kernel_rfl) rfl rfl ⟨hx145_0, hx146_0, hx147_0, ((HB.out.cell (World.block_lt_of_cell? w _ hw148_0)).trans hw148_0), hx149_0⟩ (fun hHeld => ?_); refine with_tabW cards_Read.tab10 cards_Read.bits10 (fun HT_ HW_ => ?_)
                      generalize wr.drew = w27 at HO_4 HO_17 BK133 HB hx145_0 hx146_0 hx147_0 hx148_0 hx149_0 hHeld ⊢
                      refine pure_ (i := 0) (N := some 42) (v := ?_) (a' := ?_) #[true, false, false, false, false, false, false, false, false, false, false, false, false, false, false, false, false, false, false, false, false, false] rfl rfl (any_of HT_.out (by kernel_rfl)) (fun _ _ _ h => h) (Or.inl ⟨by rfl, ?_⟩) ?_ ?_
                      rotate_left
                      · intro w'
                        go_simp
                        with_reducible rfl
                      rotate_left
                      · simp only [Act.put, List.setIfInBounds_toArray, List.set_cons_zero, List.set_cons_succ, i64_w, i32_w]
                        rfl
                      refine pure_ (i := 1) (N := some 43) (v := ?_) (a' := ?_) #[true, true, false, false, false, false, false, false, false, false, false, false, false, false, false, false, false, false, false, false, false, false] rfl rfl (any_of HT_.out (by kernel_rfl)) (fun _ _ _ h => h) (Or.inl ⟨by rfl, ?_⟩) ?_ ?_
                      rotate_left
                      · intro w'
                        go_simp
                        with_reducible rfl
                      rotate_left
                      · simp only [Act.put, List.setIfInBounds_toArray, List.set_cons_zero, List.set_cons_succ, i64_w, i32_w]
                        rfl
                      refine pure_ (i := 3) (N := some 45) (v := ?_) (a' := ?_) #[true, true, false, true, false, false, false, false, false, false, false, false, false, false, false, false, false, false, false, false, false, false] rfl rfl (any_of HT_.out (by kernel_rfl)) (fun _ _ _ h => h) (Or.inl ⟨by rfl, ?_⟩) ?_ ?_
                      rotate_left
                      · intro w'
                        go_simp
                        with_reducible rfl
                      rotate_left
                      · simp only [Act.put, List.setIfInBounds_toArray, List.set_cons_zero, List.set_cons_succ, i64_w, i32_w]
                        rfl
                      refine pure_ (i := 4) (N := some 46) (v := ?_) (a' := ?_) #[true, true, false, true, true, false, false, false, false, false, false, false, false, false, false, false, false, false, false, false, false, false] rfl rfl (any_of HT_.out (by kernel_rfl)) (fun _ _ _ h => h) (Or.inl ⟨by rfl, ?_⟩) ?_ ?_
                      rotate_left
                      · intro w'
                        go_simp
                        with_reducible rfl
                      rotate_left
                      · simp only [Act.put, List.setIfInBounds_toArray, List.set_cons_zero, List.set_cons_succ, i64_w, i32_w]
                        rfl
                      refine pure_ (i := 6) (N := some 48) (v := ?_) (a' := ?_) #[true, true, false, true, true, false, true, false, false, false, false, false, false, false, false, false, false, false, false, false, false, false] rfl rfl (any_of HT_.out (by kernel_rfl)) (fun _ _ _ h => h) (Or.inl ⟨by rfl, ?_⟩) ?_ ?_
                      rotate_left
                      · intro w'
                        go_simp
                        with_reducible rfl
                      rotate_left
                      · simp only [Act.put, List.setIfInBounds_toArray, List.set_cons_zero, List.set_cons_succ, i64_w, i32_w]
                        rfl
                      refine pure_ (i := 7) (N := some 49) (v := ?_) (a' := ?_) #[true, true, false, true, true, false, true, true, false, false, false, false, false, false, false, false, false, false, false, false, false, false] rfl rfl (any_of HT_.out (by kernel_rfl)) (fun _ _ _ h => h) (Or.inl ⟨by rfl, ?_⟩) ?_ ?_
                      rotate_left
                      · intro w'
                        go_simp
                        with_reducible rfl
                      rotate_left
                      · simp only [Act.put, List.setIfInBounds_toArray, List.set_cons_zero, List.set_cons_succ, i64_w, i32_w]
                        rfl
                      refine pure_ (i := 9) (N := some 51) (v := ?_) (a' := ?_) #[true, true, false, true, true, false, true, true, false, true, false, false, false, false, false, false, false, false, false, false, false, false] rfl rfl (any_of HT_.out (by kernel_rfl)) (fun _ _ _ h => h) (Or.inl ⟨by rfl, ?_⟩) ?_ ?_
                      rotate_left
                      · intro w'
                        go_simp
                        with_reducible rfl
                      rotate_left
                      · simp only [Act.put, List.setIfInBounds_toArray, List.set_cons_zero, List.set_cons_succ, i64_w, i32_w]
                        rfl
                      refine pure_ (i := 10) (N := some 52) (v := ?_) (a' := ?_) #[true, true, false, true, true, false, true, true, false, true, true, false, false, false, false, false, false, false, false, false, false, false] rfl rfl (any_of HT_.out (by kernel_rfl)) (fun _ _ _ h => h) (Or.inl ⟨by rfl, ?_⟩) ?_ ?_
                      rotate_left
                      · intro w'
                        go_simp
                        with_reducible rfl
                      rotate_left
                      · simp only [Act.put, List.setIfInBounds_toArray, List.set_cons_zero, List.set_cons_succ, i64_w, i32_w]
                        rfl
                      refine pure_ (i := 12) (N := some 54) (v := ?_) (a' := ?_) #[true, true, false, true, true, false, true, true, false, true, true, false, true, false, false, false, false, false, false, false, false, false] rfl rfl (any_of HT_.out (by kernel_rfl)) (fun _ _ _ h => h) (Or.inl ⟨by rfl, ?_⟩) ?_ ?_
                      rotate_left
                      · intro w'
                        go_simp
                        with_reducible rfl
                      rotate_left
                      · simp only [Act.put, List.setIfInBounds_toArray, List.set_cons_zero, List.set_cons_succ, i64_w, i32_w]
                        rfl
                      refine pure_ (i := 13) (N := some 55) (v := ?_) (a' := ?_) #[true, true, false, true, true, false, true, true, false, true, true, false, true, true, false, false, false, false, false, false, false, false] rfl rfl (any_of HT_.out (by kernel_rfl)) (fun _ _ _ h => h) (Or.inl ⟨by rfl, ?_⟩) ?_ ?_
                      rotate_left
                      · intro w'
                        go_simp
                        with_reducible rfl
                      rotate_left
                      · simp only [Act.put, List.setIfInBounds_toArray, List.set_cons_zero, List.set_cons_succ, i64_w, i32_w]
                        rfl
                      refine pure_ (i := 14) (N := some 56) (v := ?_) (a' := ?_) #[true, true, false, true, true, false, true, true, false, true, true, false, true, true, true, false, false, false, false, false, false, false] rfl rfl (any_of HT_.out (by kernel_rfl)) (fun _ _ _ h => h) (Or.inl ⟨by rfl, ?_⟩) ?_ ?_
                      rotate_left
                      · intro w'
                        go_simp
                        with_reducible rfl
                      rotate_left
                      · simp only [Act.put, List.setIfInBounds_toArray, List.set_cons_zero, List.set_cons_succ, i64_w, i32_w]
                        rfl
                      refine pure_ (i := 15) (N := some 57) (v := ?_) (a' := ?_) #[true, true, false, true, true, false, true, true, false, true, true, false, true, true, true, true, false, false, false, false, false, false] rfl rfl (any_of HT_.out (by kernel_rfl)) (fun _ _ _ h => h) (Or.inl ⟨by rfl, ?_⟩) ?_ ?_
                      rotate_left
                      · intro w'
                        go_simp
                        with_reducible rfl
                      rotate_left
                      · simp only [Act.put, List.setIfInBounds_toArray, List.set_cons_zero, List.set_cons_succ, i64_w, i32_w]
                        rfl
                      refine pure_ (i := 16) (N := some 58) (v := ?_) (a' := ?_) #[true, true, false, true, true, false, true, true, false, true, true, false, true, true, true, true, true, false, false, false, false, false] rfl rfl (any_of HT_.out (by kernel_rfl)) (fun _ _ _ h => h) (Or.inl ⟨by rfl, ?_⟩) ?_ ?_
                      rotate_left
                      · intro w'
                        go_simp
                        with_reducible rfl
                      rotate_left
                      · simp only [Act.put, List.setIfInBounds_toArray, List.set_cons_zero, List.set_cons_succ, i64_w, i32_w]
                        rfl
                      refine take_ (i := 2) (N := some 44) (v := ?_) (a' := ?_) #[true, true, true, true, true, false, true, true, false, true, true, false, true, true, true, true, true, false, false, false, false, false] rfl rfl (take_ofW HT_.out HW_.out (by kernel_rfl)) (fun _ _ _ h => h) (Or.inl ⟨by rfl, ?_⟩) hHeld ?_ ?_
                      rotate_left
                      · rintro w' ⟨s0, s1, s2, s3, s4⟩
                        go_simp
                        with_reducible rfl
                      rotate_left
                      · simp only [Act.put, List.setIfInBounds_toArray, List.set_cons_zero, List.set_cons_succ, i64_w, i32_w]
                        rfl
                      refine take_ (i := 5) (N := some 47) (v := ?_) (a' := ?_) #[true, true, true, true, true, true, true, true, false, true, true, false, true, true, true, true, true, false, false, false, false, false] rfl rfl (take_ofW HT_.out HW_.out (by kernel_rfl)) (fun _ _ _ h => h) (Or.inl ⟨by rfl, ?_⟩) hHeld ?_ ?_
                      rotate_left
                      · rintro w' ⟨s0, s1, s2, s3, s4⟩
                        go_simp
                        with_reducible rfl
                      rotate_left
                      · simp only [Act.put, List.setIfInBounds_toArray, List.set_cons_zero, List.set_cons_succ, i64_w, i32_w]
                        rfl
                      refine take_ (i := 8) (N := some 50) (v := ?_) (a' := ?_) #[true, true, true, true, true, true, true, true, true, true, true, false, true, true, true, true, true, false, false, false, false, false] rfl rfl (take_ofW HT_.out HW_.out (by kernel_rfl)) (fun _ _ _ h => h) (Or.inl ⟨by rfl, ?_⟩) hHeld ?_ ?_
                      rotate_left
                      · rintro w' ⟨s0, s1, s2, s3, s4⟩
                        go_simp
                        with_reducible rfl
                      rotate_left
                      · simp only [Act.put, List.setIfInBounds_toArray, List.set_cons_zero, List.set_cons_succ, i64_w, i32_w]
                        rfl
                      refine take_ (i := 11) (N := some 53) (v := ?_) (a' := ?_) #[true, true, true, true, true, true, true, true, true, true, true, true, true, true, true, true, true, false, false, false, false, false] rfl rfl (take_ofW HT_.out HW_.out (by kernel_rfl)) (fun _ _ _ h => h) (Or.inl ⟨by rfl, ?_⟩) hHeld ?_ ?_
                      rotate_left
                      · rintro w' ⟨s0, s1, s2, s3, s4⟩
                        go_simp
                        with_reducible rfl
                      rotate_left
                      · simp only [Act.put, List.setIfInBounds_toArray, List.set_cons_zero, List.set_cons_succ, i64_w, i32_w]
                        rfl
                      refine take_ (i := 17) (N := some 59) (v := ?_) (a' := ?_) #[true, true, true, true, true, true, true, true, true, true, true, true, true, true, true, true, true, true, false, false, false, false] rfl rfl (take_ofW HT_.out HW_.out (by kernel_rfl)) (fun _ _ _ h => h) (Or.inl ⟨by rfl, ?_⟩) hHeld ?_ ?_
                      rotate_left
                      · rintro w' ⟨s0, s1, s2, s3, s4⟩
                        go_simp
                        with_reducible rfl
                      rotate_left
                      · simp only [Act.put, List.setIfInBounds_toArray, List.set_cons_zero, List.set_cons_succ, i64_w, i32_w]
                        rfl
                      refine pure_ (i := 18) (N := some 60) (v := ?_) (a' := ?_) #[true, true, true, true, true, true, true, true, true, true, true, true, true, true, true, true, true, true, true, false, false, false] rfl rfl (any_of HT_.out (by kernel_rfl)) (fun _ _ _ h => h) (Or.inl ⟨by rfl, ?_⟩) ?_ ?_
                      rotate_left
                      · intro w'
                        go_simp
                        with_reducible rfl
                      rotate_left
                      · simp only [Act.put, List.setIfInBounds_toArray, List.set_cons_zero, List.set_cons_succ, i64_w, i32_w]
                        rfl
                      refine pure_ (i := 19) (N := some 61) (v := ?_) (a' := ?_) #[true, true, true, true, true, true, true, true, true, true, true, true, true, true, true, true, true, true, true, true, false, false] rfl rfl (any_of HT_.out (by kernel_rfl)) (fun _ _ _ h => h) (Or.inl ⟨by rfl, ?_⟩) ?_ ?_
                      rotate_left
                      · intro w'
                        go_simp
                        with_reducible rfl
                      rotate_left
                      · simp only [Act.put, List.setIfInBounds_toArray, List.set_cons_zero, List.set_cons_succ, i64_w, i32_w]
                        rfl
                      refine one_ (i := 20) (N := some 9) #[true, true, true, true, true, true, true, true, true, true, true, true, true, true, true, true, true, true, true, true, true, false] rfl rfl (one_of HT_.out (by kernel_rfl)) (by decide) (fun K hK => ?_)
                      refine box_step ?hg (N := 9) ?hd (cs := #[.int .i64 0, .int .i64 0, .int .i64 0, .int .u64 0, .int .i64 0, .int .i64 0, .int .i64 0, .int .i64 0, .int .i64 0, .int .i64 0]) (t := 25) ?hr ?_; (case hd => rfl); (case hg => rfl); (case hr => first | (go_simp; done) | (go_simp; rfl))
                      intro gb150 hg w29 hbox hb
                      have HS0_ := (hb.cell (World.block_lt_of_cell? _ _ (hHeld.1))).trans (hHeld.1)
                      have HS1_ := (hb.cell (World.block_lt_of_cell? _ _ (hHeld.2.1))).trans (hHeld.2.1)
                      have HS2_ := (hb.cell (World.block_lt_of_cell? _ _ (hHeld.2.2.1))).trans (hHeld.2.2.1)
                      have HS4_ := (hb.cell (World.block_lt_of_cell? _ _ (hHeld.2.2.2.2))).trans (hHeld.2.2.2.2)
                      have n0_ := Aside0.mk (Kd.R_below (by (with_reducible repeat (first | apply Kd.R_alloc | apply Kd.R_drewN | apply Kd.R_drew)); exact HO_4.out) hb)
                      have n1_ := Aside0.mk (Kd.R_below (by (with_reducible repeat (first | apply Kd.R_alloc | apply Kd.R_drewN | apply Kd.R_drew)); exact HO_17.out) hb)
                      have n2_ := Aside0.mk (blk_below (g := gb133) (o := .cells #[.int .i64 0, .int .i64 0, .int .i64 0, .int .u64 0, .int .i64 0, .int .i64 0, .int .i64 0, .int .i64 0, .int .i64 0, .int .i64 0] 25 (0, 0)) (by (with_reducible repeat (first | refine blk_drewN ?_ _ | refine blk_drew ?_ | refine blk_alloc ?_ _)); exact BK133.out) hb)
                      have n3_ := Aside0.mk (below_step (by repeat (first | (with_reducible first | exact HB.out | apply below_alloc | apply pw_below_drewN | apply below_drew1 | refine below_set ?_ GE133.out) | exact HB.out)) hb)
                      have n4_ := Aside0.mk (hbox)
                      have n5_ := Aside0.mk ((by rw [hg]; exact (below_size (by repeat (first | (with_reducible first | exact HB.out | apply below_alloc | apply pw_below_drewN | apply below_drew1 | refine below_set ?_ GE133.out) | exact HB.out))) : w.heap.size ≤ gb150))
                      have n6_ := Aside0.mk ((by rw [hg]; exact (below_size (by repeat (first | (with_reducible first | exact HB.out | apply below_alloc | apply pw_below_drewN | apply below_drew1 | refine below_set ?_ GE133.out) | exact HB.out))) : w.heap.size ≤ gb150))
                      have n7_ := Aside0.mk ((by rw [hg]; exact Nat.ne_of_lt (blk_lt (g := gb133) (o := .cells #[.int .i64 0, .int .i64 0, .int .i64 0, .int .u64 0, .int .i64 0, .int .i64 0, .int .i64 0, .int .i64 0, .int .i64 0, .int .i64 0] 25 (0, 0)) (by (with_reducible repeat (first | refine blk_drewN ?_ _ | refine blk_drew ?_ | refine blk_alloc ?_ _)); exact BK133.out)) : gb133 ≠ gb150))
                      have n8_ := Aside0.mk ((by rw [hg]; exact Nat.ne_of_gt (blk_lt (g := gb133) (o := .cells #[.int .i64 0, .int .i64 0, .int .i64 0, .int .u64 0, .int .i64 0, .int .i64 0, .int .i64 0, .int .i64 0, .int .i64 0, .int .i64 0] 25 (0, 0)) (by (with_reducible repeat (first | refine blk_drewN ?_ _ | refine blk_drew ?_ | refine blk_alloc ?_ _)); exact BK133.out)) : gb150 ≠ gb133))
                      clear HO_4
                      clear HO_17
                      clear BK133
                      clear HB
                      have HO_4 := n0_
                      have HO_17 := n1_
                      have BK133 := n2_
                      have HB := n3_
                      have BK150 := n4_
                      have GW150 := n5_
                      have GE150 := n6_
                      have NB133_150 := n7_
                      have NB150_133 := n8_
                      clear n0_ n1_ n2_ n3_ n4_ n5_ n6_ n7_ n8_
                      clear hb hbox hg
                      refine hK.out _ _ ⟨HS0_, HS1_, HS2_, ((HB.out.cell (World.block_lt_of_cell? w _ hw148_0)).trans hw148_0), HS4_⟩ (fun hHeld => ?_)
                      clear hK K
                      refine norm_ (a' := ?_) ?_ ?_
                      rotate_left
                      · show Act.put _ (some 9) _ = _
                        simp only [Act.put, List.setIfInBounds_toArray, List.set_cons_zero, List.set_cons_succ, i64_w, i32_w]
                        rfl
                      refine one_ (i := 21) (N := none) #[true, true, true, true, true, true, true, true, true, true, true, true, true, true, true, true, true, true, true, true, true, true] rfl rfl (one_of HT_.out (by kernel_rfl)) (by decide) (fun K hK => ?_)
                      have hs30 : w29.cell? ⟨gb150, 0, none⟩ = some (.int .i64 0) := (blk_cell BK150.out 0).trans rfl
                      have hfs30 := blk_frozen BK150.out 0
                      have hns30_0 := NB133_150.out
                      have hms30_0 := NB150_133.out
                      have hs31 : w29.cell? ⟨gb150, 1, none⟩ = some (.int .i64 0) := (blk_cell BK150.out 1).trans rfl
                      have hfs31 := blk_frozen BK150.out 1
                      have hns31_0 := NB133_150.out
                      have hms31_0 := NB150_133.out
                      have hs32 : w29.cell? ⟨gb150, 2, none⟩ = some (.int .i64 0) := (blk_cell BK150.out 2).trans rfl
                      have hfs32 := blk_frozen BK150.out 2
                      have hns32_0 := NB133_150.out
                      have hms32_0 := NB150_133.out
                      have hs33 : w29.cell? ⟨gb150, 3, none⟩ = some (.int .u64 0) := (blk_cell BK150.out 3).trans rfl
                      have hfs33 := blk_frozen BK150.out 3
                      have hns33_0 := NB133_150.out
                      have hms33_0 := NB150_133.out
                      have hs34 : w29.cell? ⟨gb150, 4, none⟩ = some (.int .i64 0) := (blk_cell BK150.out 4).trans rfl
                      have hfs34 := blk_frozen BK150.out 4
                      have hns34_0 := NB133_150.out
                      have hms34_0 := NB150_133.out
                      have hs35 : w29.cell? ⟨gb150, 5, none⟩ = some (.int .i64 0) := (blk_cell BK150.out 5).trans rfl
                      have hfs35 := blk_frozen BK150.out 5
                      have hns35_0 := NB133_150.out
                      have hms35_0 := NB150_133.out
                      have hs36 : w29.cell? ⟨gb150, 6, none⟩ = some (.int .i64 0) := (blk_cell BK150.out 6).trans rfl
                      have hfs36 := blk_frozen BK150.out 6
                      have hns36_0 := NB133_150.out
                      have hms36_0 := NB150_133.out
                      have hs37 : w29.cell? ⟨gb150, 7, none⟩ = some (.int .i64 0) := (blk_cell BK150.out 7).trans rfl
                      have hfs37 := blk_frozen BK150.out 7
                      have hns37_0 := NB133_150.out
                      have hms37_0 := NB150_133.out
                      have hs38 : w29.cell? ⟨gb150, 8, none⟩ = some (.int .i64 0) := (blk_cell BK150.out 8).trans rfl
                      have hfs38 := blk_frozen BK150.out 8
                      have hns38_0 := NB133_150.out
                      have hms38_0 := NB150_133.out
                      have hs39 : w29.cell? ⟨gb150, 9, none⟩ = some (.int .i64 0) := (blk_cell BK150.out 9).trans rfl
                      have hfs39 := blk_frozen BK150.out 9
                      have hns39_0 := NB133_150.out
                      have hms39_0 := NB150_133.out
                      refine skip_ (w1 := ?_) (by rfl) rfl ?_ ?_
                      rotate_left
                      · go_simp
                        rfl
                      refine hK.out _ _ ⟨((cell_far (p := ⟨gb150, _, none⟩) (by first | exact Kd.own_blk (Kd.R_ne HO_4.out BK150.out (by decide)) | (rw [add_block]; exact Kd.own_blk (Kd.R_ne HO_4.out BK150.out (by decide))) | (show (Addr.add _ _).block ≠ _; rw [add_block]; exact Kd.own_blk (Kd.R_ne HO_4.out BK150.out (by decide))) | (dsimp only; exact Kd.own_blk (Kd.R_ne HO_4.out BK150.out (by decide)))) _).trans (((cell_far (p := ⟨gb150, _, none⟩) (by first | exact Kd.own_blk (Kd.R_ne HO_4.out BK150.out (by decide)) | (rw [add_block]; exact Kd.own_blk (Kd.R_ne HO_4.out BK150.out (by decide))) | (show (Addr.add _ _).block ≠ _; rw [add_block]; exact Kd.own_blk (Kd.R_ne HO_4.out BK150.out (by decide))) | (dsimp only; exact Kd.own_blk (Kd.R_ne HO_4.out BK150.out (by decide)))) _).trans (((cell_far (p := ⟨gb150, _, none⟩) (by first | exact Kd.own_blk (Kd.R_ne HO_4.out BK150.out (by decide)) | (rw [add_block]; exact Kd.own_blk (Kd.R_ne HO_4.out BK150.out (by decide))) | (show (Addr.add _ _).block ≠ _; rw [add_block]; exact Kd.own_blk (Kd.R_ne HO_4.out BK150.out (by decide))) | (dsimp only; exact Kd.own_blk (Kd.R_ne HO_4.out BK150.out (by decide)))) _).trans (((cell_far (p := ⟨gb150, _, none⟩) (by first | exact Kd.own_blk (Kd.R_ne HO_4.out BK150.out (by decide)) | (rw [add_block]; exact Kd.own_blk (Kd.R_ne HO_4.out BK150.out (by decide))) | (show (Addr.add _ _).block ≠ _; rw [add_block]; exact Kd.own_blk (Kd.R_ne HO_4.out BK150.out (by decide))) | (dsimp only; exact Kd.own_blk (Kd.R_ne HO_4.out BK150.out (by decide)))) _).trans (((cell_far (p := ⟨gb150, _, none⟩) (by first | exact Kd.own_blk (Kd.R_ne HO_4.out BK150.out (by decide)) | (rw [add_block]; exact Kd.own_blk (Kd.R_ne HO_4.out BK150.out (by decide))) | (show (Addr.add _ _).block ≠ _; rw [add_block]; exact Kd.own_blk (Kd.R_ne HO_4.out BK150.out (by decide))) | (dsimp only; exact Kd.own_blk (Kd.R_ne HO_4.out BK150.out (by decide)))) _).trans (((cell_far (p := ⟨gb150, _, none⟩) (by first | exact Kd.own_blk (Kd.R_ne HO_4.out BK150.out (by decide)) | (rw [add_block]; exact Kd.own_blk (Kd.R_ne HO_4.out BK150.out (by decide))) | (show (Addr.add _ _).block ≠ _; rw [add_block]; exact Kd.own_blk (Kd.R_ne HO_4.out BK150.out (by decide))) | (dsimp only; exact Kd.own_blk (Kd.R_ne HO_4.out BK150.out (by decide)))) _).trans (((cell_far (p := ⟨gb150, _, none⟩) (by first | exact Kd.own_blk (Kd.R_ne HO_4.out BK150.out (by decide)) | (rw [add_block]; exact Kd.own_blk (Kd.R_ne HO_4.out BK150.out (by decide))) | (show (Addr.add _ _).block ≠ _; rw [add_block]; exact Kd.own_blk (Kd.R_ne HO_4.out BK150.out (by decide))) | (dsimp only; exact Kd.own_blk (Kd.R_ne HO_4.out BK150.out (by decide)))) _).trans (((cell_far (p := ⟨gb150, _, none⟩) (by first | exact Kd.own_blk (Kd.R_ne HO_4.out BK150.out (by decide)) | (rw [add_block]; exact Kd.own_blk (Kd.R_ne HO_4.out BK150.out (by decide))) | (show (Addr.add _ _).block ≠ _; rw [add_block]; exact Kd.own_blk (Kd.R_ne HO_4.out BK150.out (by decide))) | (dsimp only; exact Kd.own_blk (Kd.R_ne HO_4.out BK150.out (by decide)))) _).trans (((cell_far (p := ⟨gb150, _, none⟩) (by first | exact Kd.own_blk (Kd.R_ne HO_4.out BK150.out (by decide)) | (rw [add_block]; exact Kd.own_blk (Kd.R_ne HO_4.out BK150.out (by decide))) | (show (Addr.add _ _).block ≠ _; rw [add_block]; exact Kd.own_blk (Kd.R_ne HO_4.out BK150.out (by decide))) | (dsimp only; exact Kd.own_blk (Kd.R_ne HO_4.out BK150.out (by decide)))) _).trans (((cell_far (p := ⟨gb150, _, none⟩) (by first | exact Kd.own_blk (Kd.R_ne HO_4.out BK150.out (by decide)) | (rw [add_block]; exact Kd.own_blk (Kd.R_ne HO_4.out BK150.out (by decide))) | (show (Addr.add _ _).block ≠ _; rw [add_block]; exact Kd.own_blk (Kd.R_ne HO_4.out BK150.out (by decide))) | (dsimp only; exact Kd.own_blk (Kd.R_ne HO_4.out BK150.out (by decide)))) _).trans (hHeld.1)))))))))))))))))))), ((cell_far (p := ⟨gb150, _, none⟩) (by first | exact Kd.own_blk (Kd.R_ne HO_4.out BK150.out (by decide)) | (rw [add_block]; exact Kd.own_blk (Kd.R_ne HO_4.out BK150.out (by decide))) | (show (Addr.add _ _).block ≠ _; rw [add_block]; exact Kd.own_blk (Kd.R_ne HO_4.out BK150.out (by decide))) | (dsimp only; exact Kd.own_blk (Kd.R_ne HO_4.out BK150.out (by decide)))) _).trans (((cell_far (p := ⟨gb150, _, none⟩) (by first | exact Kd.own_blk (Kd.R_ne HO_4.out BK150.out (by decide)) | (rw [add_block]; exact Kd.own_blk (Kd.R_ne HO_4.out BK150.out (by decide))) | (show (Addr.add _ _).block ≠ _; rw [add_block]; exact Kd.own_blk (Kd.R_ne HO_4.out BK150.out (by decide))) | (dsimp only; exact Kd.own_blk (Kd.R_ne HO_4.out BK150.out (by decide)))) _).trans (((cell_far (p := ⟨gb150, _, none⟩) (by first | exact Kd.own_blk (Kd.R_ne HO_4.out BK150.out (by decide)) | (rw [add_block]; exact Kd.own_blk (Kd.R_ne HO_4.out BK150.out (by decide))) | (show (Addr.add _ _).block ≠ _; rw [add_block]; exact Kd.own_blk (Kd.R_ne HO_4.out BK150.out (by decide))) | (dsimp only; exact Kd.own_blk (Kd.R_ne HO_4.out BK150.out (by decide)))) _).trans (((cell_far (p := ⟨gb150, _, none⟩) (by first | exact Kd.own_blk (Kd.R_ne HO_4.out BK150.out (by decide)) | (rw [add_block]; exact Kd.own_blk (Kd.R_ne HO_4.out BK150.out (by decide))) | (show (Addr.add _ _).block ≠ _; rw [add_block]; exact Kd.own_blk (Kd.R_ne HO_4.out BK150.out (by decide))) | (dsimp only; exact Kd.own_blk (Kd.R_ne HO_4.out BK150.out (by decide)))) _).trans (((cell_far (p := ⟨gb150, _, none⟩) (by first | exact Kd.own_blk (Kd.R_ne HO_4.out BK150.out (by decide)) | (rw [add_block]; exact Kd.own_blk (Kd.R_ne HO_4.out BK150.out (by decide))) | (show (Addr.add _ _).block ≠ _; rw [add_block]; exact Kd.own_blk (Kd.R_ne HO_4.out BK150.out (by decide))) | (dsimp only; exact Kd.own_blk (Kd.R_ne HO_4.out BK150.out (by decide)))) _).trans (((cell_far (p := ⟨gb150, _, none⟩) (by first | exact Kd.own_blk (Kd.R_ne HO_4.out BK150.out (by decide)) | (rw [add_block]; exact Kd.own_blk (Kd.R_ne HO_4.out BK150.out (by decide))) | (show (Addr.add _ _).block ≠ _; rw [add_block]; exact Kd.own_blk (Kd.R_ne HO_4.out BK150.out (by decide))) | (dsimp only; exact Kd.own_blk (Kd.R_ne HO_4.out BK150.out (by decide)))) _).trans (((cell_far (p := ⟨gb150, _, none⟩) (by first | exact Kd.own_blk (Kd.R_ne HO_4.out BK150.out (by decide)) | (rw [add_block]; exact Kd.own_blk (Kd.R_ne HO_4.out BK150.out (by decide))) | (show (Addr.add _ _).block ≠ _; rw [add_block]; exact Kd.own_blk (Kd.R_ne HO_4.out BK150.out (by decide))) | (dsimp only; exact Kd.own_blk (Kd.R_ne HO_4.out BK150.out (by decide)))) _).trans (((cell_far (p := ⟨gb150, _, none⟩) (by first | exact Kd.own_blk (Kd.R_ne HO_4.out BK150.out (by decide)) | (rw [add_block]; exact Kd.own_blk (Kd.R_ne HO_4.out BK150.out (by decide))) | (show (Addr.add _ _).block ≠ _; rw [add_block]; exact Kd.own_blk (Kd.R_ne HO_4.out BK150.out (by decide))) | (dsimp only; exact Kd.own_blk (Kd.R_ne HO_4.out BK150.out (by decide)))) _).trans (((cell_far (p := ⟨gb150, _, none⟩) (by first | exact Kd.own_blk (Kd.R_ne HO_4.out BK150.out (by decide)) | (rw [add_block]; exact Kd.own_blk (Kd.R_ne HO_4.out BK150.out (by decide))) | (show (Addr.add _ _).block ≠ _; rw [add_block]; exact Kd.own_blk (Kd.R_ne HO_4.out BK150.out (by decide))) | (dsimp only; exact Kd.own_blk (Kd.R_ne HO_4.out BK150.out (by decide)))) _).trans (((cell_far (p := ⟨gb150, _, none⟩) (by first | exact Kd.own_blk (Kd.R_ne HO_4.out BK150.out (by decide)) | (rw [add_block]; exact Kd.own_blk (Kd.R_ne HO_4.out BK150.out (by decide))) | (show (Addr.add _ _).block ≠ _; rw [add_block]; exact Kd.own_blk (Kd.R_ne HO_4.out BK150.out (by decide))) | (dsimp only; exact Kd.own_blk (Kd.R_ne HO_4.out BK150.out (by decide)))) _).trans (hHeld.2.1)))))))))))))))))))), ((cell_far (p := ⟨gb150, _, none⟩) (by first | exact Kd.own_blk (Kd.R_ne HO_4.out BK150.out (by decide)) | (rw [add_block]; exact Kd.own_blk (Kd.R_ne HO_4.out BK150.out (by decide))) | (show (Addr.add _ _).block ≠ _; rw [add_block]; exact Kd.own_blk (Kd.R_ne HO_4.out BK150.out (by decide))) | (dsimp only; exact Kd.own_blk (Kd.R_ne HO_4.out BK150.out (by decide)))) _).trans (((cell_far (p := ⟨gb150, _, none⟩) (by first | exact Kd.own_blk (Kd.R_ne HO_4.out BK150.out (by decide)) | (rw [add_block]; exact Kd.own_blk (Kd.R_ne HO_4.out BK150.out (by decide))) | (show (Addr.add _ _).block ≠ _; rw [add_block]; exact Kd.own_blk (Kd.R_ne HO_4.out BK150.out (by decide))) | (dsimp only; exact Kd.own_blk (Kd.R_ne HO_4.out BK150.out (by decide)))) _).trans (((cell_far (p := ⟨gb150, _, none⟩) (by first | exact Kd.own_blk (Kd.R_ne HO_4.out BK150.out (by decide)) | (rw [add_block]; exact Kd.own_blk (Kd.R_ne HO_4.out BK150.out (by decide))) | (show (Addr.add _ _).block ≠ _; rw [add_block]; exact Kd.own_blk (Kd.R_ne HO_4.out BK150.out (by decide))) | (dsimp only; exact Kd.own_blk (Kd.R_ne HO_4.out BK150.out (by decide)))) _).trans (((cell_far (p := ⟨gb150, _, none⟩) (by first | exact Kd.own_blk (Kd.R_ne HO_4.out BK150.out (by decide)) | (rw [add_block]; exact Kd.own_blk (Kd.R_ne HO_4.out BK150.out (by decide))) | (show (Addr.add _ _).block ≠ _; rw [add_block]; exact Kd.own_blk (Kd.R_ne HO_4.out BK150.out (by decide))) | (dsimp only; exact Kd.own_blk (Kd.R_ne HO_4.out BK150.out (by decide)))) _).trans (((cell_far (p := ⟨gb150, _, none⟩) (by first | exact Kd.own_blk (Kd.R_ne HO_4.out BK150.out (by decide)) | (rw [add_block]; exact Kd.own_blk (Kd.R_ne HO_4.out BK150.out (by decide))) | (show (Addr.add _ _).block ≠ _; rw [add_block]; exact Kd.own_blk (Kd.R_ne HO_4.out BK150.out (by decide))) | (dsimp only; exact Kd.own_blk (Kd.R_ne HO_4.out BK150.out (by decide)))) _).trans (((cell_far (p := ⟨gb150, _, none⟩) (by first | exact Kd.own_blk (Kd.R_ne HO_4.out BK150.out (by decide)) | (rw [add_block]; exact Kd.own_blk (Kd.R_ne HO_4.out BK150.out (by decide))) | (show (Addr.add _ _).block ≠ _; rw [add_block]; exact Kd.own_blk (Kd.R_ne HO_4.out BK150.out (by decide))) | (dsimp only; exact Kd.own_blk (Kd.R_ne HO_4.out BK150.out (by decide)))) _).trans (((cell_far (p := ⟨gb150, _, none⟩) (by first | exact Kd.own_blk (Kd.R_ne HO_4.out BK150.out (by decide)) | (rw [add_block]; exact Kd.own_blk (Kd.R_ne HO_4.out BK150.out (by decide))) | (show (Addr.add _ _).block ≠ _; rw [add_block]; exact Kd.own_blk (Kd.R_ne HO_4.out BK150.out (by decide))) | (dsimp only; exact Kd.own_blk (Kd.R_ne HO_4.out BK150.out (by decide)))) _).trans (((cell_far (p := ⟨gb150, _, none⟩) (by first | exact Kd.own_blk (Kd.R_ne HO_4.out BK150.out (by decide)) | (rw [add_block]; exact Kd.own_blk (Kd.R_ne HO_4.out BK150.out (by decide))) | (show (Addr.add _ _).block ≠ _; rw [add_block]; exact Kd.own_blk (Kd.R_ne HO_4.out BK150.out (by decide))) | (dsimp only; exact Kd.own_blk (Kd.R_ne HO_4.out BK150.out (by decide)))) _).trans (((cell_far (p := ⟨gb150, _, none⟩) (by first | exact Kd.own_blk (Kd.R_ne HO_4.out BK150.out (by decide)) | (rw [add_block]; exact Kd.own_blk (Kd.R_ne HO_4.out BK150.out (by decide))) | (show (Addr.add _ _).block ≠ _; rw [add_block]; exact Kd.own_blk (Kd.R_ne HO_4.out BK150.out (by decide))) | (dsimp only; exact Kd.own_blk (Kd.R_ne HO_4.out BK150.out (by decide)))) _).trans (((cell_far (p := ⟨gb150, _, none⟩) (by first | exact Kd.own_blk (Kd.R_ne HO_4.out BK150.out (by decide)) | (rw [add_block]; exact Kd.own_blk (Kd.R_ne HO_4.out BK150.out (by decide))) | (show (Addr.add _ _).block ≠ _; rw [add_block]; exact Kd.own_blk (Kd.R_ne HO_4.out BK150.out (by decide))) | (dsimp only; exact Kd.own_blk (Kd.R_ne HO_4.out BK150.out (by decide)))) _).trans (hHeld.2.2.1)))))))))))))))))))), ((cell_far (p := ⟨gb150, _, none⟩) (by first | exact Nat.ne_of_lt (Nat.lt_of_lt_of_le (by have := World.block_lt_of_cell? _ _ hw148_0; first | rwa [add_block] at this | exact this) GW150.out) | (rw [add_block]; exact Nat.ne_of_lt (Nat.lt_of_lt_of_le (by have := World.block_lt_of_cell? _ _ hw148_0; first | rwa [add_block] at this | exact this) GW150.out)) | (show (Addr.add _ _).block ≠ _; rw [add_block]; exact Nat.ne_of_lt (Nat.lt_of_lt_of_le (by have := World.block_lt_of_cell? _ _ hw148_0; first | rwa [add_block] at this | exact this) GW150.out)) | (dsimp only; exact Nat.ne_of_lt (Nat.lt_of_lt_of_le (by have := World.block_lt_of_cell? _ _ hw148_0; first | rwa [add_block] at this | exact this) GW150.out))) _).trans (((cell_far (p := ⟨gb150, _, none⟩) (by first | exact Nat.ne_of_lt (Nat.lt_of_lt_of_le (by have := World.block_lt_of_cell? _ _ hw148_0; first | rwa [add_block] at this | exact this) GW150.out) | (rw [add_block]; exact Nat.ne_of_lt (Nat.lt_of_lt_of_le (by have := World.block_lt_of_cell? _ _ hw148_0; first | rwa [add_block] at this | exact this) GW150.out)) | (show (Addr.add _ _).block ≠ _; rw [add_block]; exact Nat.ne_of_lt (Nat.lt_of_lt_of_le (by have := World.block_lt_of_cell? _ _ hw148_0; first | rwa [add_block] at this | exact this) GW150.out)) | (dsimp only; exact Nat.ne_of_lt (Nat.lt_of_lt_of_le (by have := World.block_lt_of_cell? _ _ hw148_0; first | rwa [add_block] at this | exact this) GW150.out))) _).trans (((cell_far (p := ⟨gb150, _, none⟩) (by first | exact Nat.ne_of_lt (Nat.lt_of_lt_of_le (by have := World.block_lt_of_cell? _ _ hw148_0; first | rwa [add_block] at this | exact this) GW150.out) | (rw [add_block]; exact Nat.ne_of_lt (Nat.lt_of_lt_of_le (by have := World.block_lt_of_cell? _ _ hw148_0; first | rwa [add_block] at this | exact this) GW150.out)) | (show (Addr.add _ _).block ≠ _; rw [add_block]; exact Nat.ne_of_lt (Nat.lt_of_lt_of_le (by have := World.block_lt_of_cell? _ _ hw148_0; first | rwa [add_block] at this | exact this) GW150.out)) | (dsimp only; exact Nat.ne_of_lt (Nat.lt_of_lt_of_le (by have := World.block_lt_of_cell? _ _ hw148_0; first | rwa [add_block] at this | exact this) GW150.out))) _).trans (((cell_far (p := ⟨gb150, _, none⟩) (by first | exact Nat.ne_of_lt (Nat.lt_of_lt_of_le (by have := World.block_lt_of_cell? _ _ hw148_0; first | rwa [add_block] at this | exact this) GW150.out) | (rw [add_block]; exact Nat.ne_of_lt (Nat.lt_of_lt_of_le (by have := World.block_lt_of_cell? _ _ hw148_0; first | rwa [add_block] at this | exact this) GW150.out)) | (show (Addr.add _ _).block ≠ _; rw [add_block]; exact Nat.ne_of_lt (Nat.lt_of_lt_of_le (by have := World.block_lt_of_cell? _ _ hw148_0; first | rwa [add_block] at this | exact this) GW150.out)) | (dsimp only; exact Nat.ne_of_lt (Nat.lt_of_lt_of_le (by have := World.block_lt_of_cell? _ _ hw148_0; first | rwa [add_block] at this | exact this) GW150.out))) _).trans (((cell_far (p := ⟨gb150, _, none⟩) (by first | exact Nat.ne_of_lt (Nat.lt_of_lt_of_le (by have := World.block_lt_of_cell? _ _ hw148_0; first | rwa [add_block] at this | exact this) GW150.out) | (rw [add_block]; exact Nat.ne_of_lt (Nat.lt_of_lt_of_le (by have := World.block_lt_of_cell? _ _ hw148_0; first | rwa [add_block] at this | exact this) GW150.out)) | (show (Addr.add _ _).block ≠ _; rw [add_block]; exact Nat.ne_of_lt (Nat.lt_of_lt_of_le (by have := World.block_lt_of_cell? _ _ hw148_0; first | rwa [add_block] at this | exact this) GW150.out)) | (dsimp only; exact Nat.ne_of_lt (Nat.lt_of_lt_of_le (by have := World.block_lt_of_cell? _ _ hw148_0; first | rwa [add_block] at this | exact this) GW150.out))) _).trans (((cell_far (p := ⟨gb150, _, none⟩) (by first | exact Nat.ne_of_lt (Nat.lt_of_lt_of_le (by have := World.block_lt_of_cell? _ _ hw148_0; first | rwa [add_block] at this | exact this) GW150.out) | (rw [add_block]; exact Nat.ne_of_lt (Nat.lt_of_lt_of_le (by have := World.block_lt_of_cell? _ _ hw148_0; first | rwa [add_block] at this | exact this) GW150.out)) | (show (Addr.add _ _).block ≠ _; rw [add_block]; exact Nat.ne_of_lt (Nat.lt_of_lt_of_le (by have := World.block_lt_of_cell? _ _ hw148_0; first | rwa [add_block] at this | exact this) GW150.out)) | (dsimp only; exact Nat.ne_of_lt (Nat.lt_of_lt_of_le (by have := World.block_lt_of_cell? _ _ hw148_0; first | rwa [add_block] at this | exact this) GW150.out))) _).trans (((cell_far (p := ⟨gb150, _, none⟩) (by first | exact Nat.ne_of_lt (Nat.lt_of_lt_of_le (by have := World.block_lt_of_cell? _ _ hw148_0; first | rwa [add_block] at this | exact this) GW150.out) | (rw [add_block]; exact Nat.ne_of_lt (Nat.lt_of_lt_of_le (by have := World.block_lt_of_cell? _ _ hw148_0; first | rwa [add_block] at this | exact this) GW150.out)) | (show (Addr.add _ _).block ≠ _; rw [add_block]; exact Nat.ne_of_lt (Nat.lt_of_lt_of_le (by have := World.block_lt_of_cell? _ _ hw148_0; first | rwa [add_block] at this | exact this) GW150.out)) | (dsimp only; exact Nat.ne_of_lt (Nat.lt_of_lt_of_le (by have := World.block_lt_of_cell? _ _ hw148_0; first | rwa [add_block] at this | exact this) GW150.out))) _).trans (((cell_far (p := ⟨gb150, _, none⟩) (by first | exact Nat.ne_of_lt (Nat.lt_of_lt_of_le (by have := World.block_lt_of_cell? _ _ hw148_0; first | rwa [add_block] at this | exact this) GW150.out) | (rw [add_block]; exact Nat.ne_of_lt (Nat.lt_of_lt_of_le (by have := World.block_lt_of_cell? _ _ hw148_0; first | rwa [add_block] at this | exact this) GW150.out)) | (show (Addr.add _ _).block ≠ _; rw [add_block]; exact Nat.ne_of_lt (Nat.lt_of_lt_of_le (by have := World.block_lt_of_cell? _ _ hw148_0; first | rwa [add_block] at this | exact this) GW150.out)) | (dsimp only; exact Nat.ne_of_lt (Nat.lt_of_lt_of_le (by have := World.block_lt_of_cell? _ _ hw148_0; first | rwa [add_block] at this | exact this) GW150.out))) _).trans (((cell_far (p := ⟨gb150, _, none⟩) (by first | exact Nat.ne_of_lt (Nat.lt_of_lt_of_le (by have := World.block_lt_of_cell? _ _ hw148_0; first | rwa [add_block] at this | exact this) GW150.out) | (rw [add_block]; exact Nat.ne_of_lt (Nat.lt_of_lt_of_le (by have := World.block_lt_of_cell? _ _ hw148_0; first | rwa [add_block] at this | exact this) GW150.out)) | (show (Addr.add _ _).block ≠ _; rw [add_block]; exact Nat.ne_of_lt (Nat.lt_of_lt_of_le (by have := World.block_lt_of_cell? _ _ hw148_0; first | rwa [add_block] at this | exact this) GW150.out)) | (dsimp only; exact Nat.ne_of_lt (Nat.lt_of_lt_of_le (by have := World.block_lt_of_cell? _ _ hw148_0; first | rwa [add_block] at this | exact this) GW150.out))) _).trans (((cell_far (p := ⟨gb150, _, none⟩) (by first | exact Nat.ne_of_lt (Nat.lt_of_lt_of_le (by have := World.block_lt_of_cell? _ _ hw148_0; first | rwa [add_block] at this | exact this) GW150.out) | (rw [add_block]; exact Nat.ne_of_lt (Nat.lt_of_lt_of_le (by have := World.block_lt_of_cell? _ _ hw148_0; first | rwa [add_block] at this | exact this) GW150.out)) | (show (Addr.add _ _).block ≠ _; rw [add_block]; exact Nat.ne_of_lt (Nat.lt_of_lt_of_le (by have := World.block_lt_of_cell? _ _ hw148_0; first | rwa [add_block] at this | exact this) GW150.out)) | (dsimp only; exact Nat.ne_of_lt (Nat.lt_of_lt_of_le (by have := World.block_lt_of_cell? _ _ hw148_0; first | rwa [add_block] at this | exact this) GW150.out))) _).trans (hHeld.2.2.2.1)))))))))))))))))))), ((cell_far (p := ⟨gb150, _, none⟩) (by first | exact Kd.own_blk (Kd.R_ne HO_4.out BK150.out (by decide)) | (rw [add_block]; exact Kd.own_blk (Kd.R_ne HO_4.out BK150.out (by decide))) | (show (Addr.add _ _).block ≠ _; rw [add_block]; exact Kd.own_blk (Kd.R_ne HO_4.out BK150.out (by decide))) | (dsimp only; exact Kd.own_blk (Kd.R_ne HO_4.out BK150.out (by decide)))) _).trans (((cell_far (p := ⟨gb150, _, none⟩) (by first | exact Kd.own_blk (Kd.R_ne HO_4.out BK150.out (by decide)) | (rw [add_block]; exact Kd.own_blk (Kd.R_ne HO_4.out BK150.out (by decide))) | (show (Addr.add _ _).block ≠ _; rw [add_block]; exact Kd.own_blk (Kd.R_ne HO_4.out BK150.out (by decide))) | (dsimp only; exact Kd.own_blk (Kd.R_ne HO_4.out BK150.out (by decide)))) _).trans (((cell_far (p := ⟨gb150, _, none⟩) (by first | exact Kd.own_blk (Kd.R_ne HO_4.out BK150.out (by decide)) | (rw [add_block]; exact Kd.own_blk (Kd.R_ne HO_4.out BK150.out (by decide))) | (show (Addr.add _ _).block ≠ _; rw [add_block]; exact Kd.own_blk (Kd.R_ne HO_4.out BK150.out (by decide))) | (dsimp only; exact Kd.own_blk (Kd.R_ne HO_4.out BK150.out (by decide)))) _).trans (((cell_far (p := ⟨gb150, _, none⟩) (by first | exact Kd.own_blk (Kd.R_ne HO_4.out BK150.out (by decide)) | (rw [add_block]; exact Kd.own_blk (Kd.R_ne HO_4.out BK150.out (by decide))) | (show (Addr.add _ _).block ≠ _; rw [add_block]; exact Kd.own_blk (Kd.R_ne HO_4.out BK150.out (by decide))) | (dsimp only; exact Kd.own_blk (Kd.R_ne HO_4.out BK150.out (by decide)))) _).trans (((cell_far (p := ⟨gb150, _, none⟩) (by first | exact Kd.own_blk (Kd.R_ne HO_4.out BK150.out (by decide)) | (rw [add_block]; exact Kd.own_blk (Kd.R_ne HO_4.out BK150.out (by decide))) | (show (Addr.add _ _).block ≠ _; rw [add_block]; exact Kd.own_blk (Kd.R_ne HO_4.out BK150.out (by decide))) | (dsimp only; exact Kd.own_blk (Kd.R_ne HO_4.out BK150.out (by decide)))) _).trans (((cell_far (p := ⟨gb150, _, none⟩) (by first | exact Kd.own_blk (Kd.R_ne HO_4.out BK150.out (by decide)) | (rw [add_block]; exact Kd.own_blk (Kd.R_ne HO_4.out BK150.out (by decide))) | (show (Addr.add _ _).block ≠ _; rw [add_block]; exact Kd.own_blk (Kd.R_ne HO_4.out BK150.out (by decide))) | (dsimp only; exact Kd.own_blk (Kd.R_ne HO_4.out BK150.out (by decide)))) _).trans (((cell_far (p := ⟨gb150, _, none⟩) (by first | exact Kd.own_blk (Kd.R_ne HO_4.out BK150.out (by decide)) | (rw [add_block]; exact Kd.own_blk (Kd.R_ne HO_4.out BK150.out (by decide))) | (show (Addr.add _ _).block ≠ _; rw [add_block]; exact Kd.own_blk (Kd.R_ne HO_4.out BK150.out (by decide))) | (dsimp only; exact Kd.own_blk (Kd.R_ne HO_4.out BK150.out (by decide)))) _).trans (((cell_far (p := ⟨gb150, _, none⟩) (by first | exact Kd.own_blk (Kd.R_ne HO_4.out BK150.out (by decide)) | (rw [add_block]; exact Kd.own_blk (Kd.R_ne HO_4.out BK150.out (by decide))) | (show (Addr.add _ _).block ≠ _; rw [add_block]; exact Kd.own_blk (Kd.R_ne HO_4.out BK150.out (by decide))) | (dsimp only; exact Kd.own_blk (Kd.R_ne HO_4.out BK150.out (by decide)))) _).trans (((cell_far (p := ⟨gb150, _, none⟩) (by first | exact Kd.own_blk (Kd.R_ne HO_4.out BK150.out (by decide)) | (rw [add_block]; exact Kd.own_blk (Kd.R_ne HO_4.out BK150.out (by decide))) | (show (Addr.add _ _).block ≠ _; rw [add_block]; exact Kd.own_blk (Kd.R_ne HO_4.out BK150.out (by decide))) | (dsimp only; exact Kd.own_blk (Kd.R_ne HO_4.out BK150.out (by decide)))) _).trans (((cell_far (p := ⟨gb150, _, none⟩) (by first | exact Kd.own_blk (Kd.R_ne HO_4.out BK150.out (by decide)) | (rw [add_block]; exact Kd.own_blk (Kd.R_ne HO_4.out BK150.out (by decide))) | (show (Addr.add _ _).block ≠ _; rw [add_block]; exact Kd.own_blk (Kd.R_ne HO_4.out BK150.out (by decide))) | (dsimp only; exact Kd.own_blk (Kd.R_ne HO_4.out BK150.out (by decide)))) _).trans (hHeld.2.2.2.2))))))))))))))))))))⟩ (fun hHeld => ?_)
                      clear hK K
                      refine done_ (done_of HT_.out (by kernel_rfl)) ?_
                      try go_wp2
                      go_loopg [62] k1 (fun kq v62 w' => ∃ (x62_2 : Int) (x151004_2 : Int) (x151005_2 : Int) (x151006_2 : Int) (x151007_2 : Int) (x151008_2 : Int), v62 = .int .i64 x62_2 ∧ Aside0 (cards_Read.l1 kq l0 x4_1 x62_2 (rd x4_1 0) (rd x4_1 1) (rd x4_1 2) (rd l0 1) x151004_2 x151005_2 x151006_2 x151007_2 x151008_2 (wrap64 ((rd x4_1 (ji24)) - 1)) = some (r1, r2, r3, r4, r5, r6, r7, r8, r9, r10, r11)) ∧ Aside0 (kq ≤ k1) ∧ Aside0 (Kd.R (Kd.int .i64) 3 w' w.heap.size (fun _ => True) (.slice (some ad145) x4_1.length co28) x4_1) ∧ Aside0 (w'.heap[gb133]? = some (.cells #[.int .i64 0, .int .i64 0, .int .i64 0, .int .u64 0, .int .i64 0, .int .i64 0, .int .i64 0, .int .i64 0, .int .i64 0, .int .i64 0] 25 (0, 0))) ∧ Aside0 (w'.heap[gb150]? = some (.cells #[.int .i64 (rd x4_1 0), .int .i64 (rd x4_1 1), .int .i64 (rd x4_1 2), .int .u64 (rd l0 1), .int .i64 x151004_2, .int .i64 x151005_2, .int .i64 x151006_2, .int .i64 x151007_2, .int .i64 x151008_2, .int .i64 (wrap64 ((rd x4_1 (ji24)) - 1))] 25 (0, 0))) ∧ Aside0 (Below w.heap.size w w'))
                      case atStart => exact ⟨(0), (0), (0), (0), (0), (0), (by first | rfl | (simp; done) | (simp [*]; done) | kernel_rfl), H', ⟨Nat.le_refl _⟩, ⟨by (with_reducible repeat (first | apply Kd.R_alloc | apply Kd.R_drewN | apply Kd.R_drew)); exact Kd.R_mono (Kd.R_far (p := ⟨gb150, 9, none⟩) (Kd.R_far (p := ⟨gb150, 8, none⟩) (Kd.R_far (p := ⟨gb150, 7, none⟩) (Kd.R_far (p := ⟨gb150, 6, none⟩) (Kd.R_far (p := ⟨gb150, 5, none⟩) (Kd.R_far (p := ⟨gb150, 4, none⟩) (Kd.R_far (p := ⟨gb150, 3, none⟩) (Kd.R_far (p := ⟨gb150, 2, none⟩) (Kd.R_far (p := ⟨gb150, 1, none⟩) (Kd.R_far (p := ⟨gb150, 0, none⟩) (Kd.R_types HO_4.out BK150.out (by decide)) (fun _ hk => hk.2) (.int .i64 (rd x4_1 0))) (fun _ hk => hk.2) (.int .i64 (rd x4_1 1))) (fun _ hk => hk.2) (.int .i64 (rd x4_1 2))) (fun _ hk => hk.2) (.int .u64 (rd l0 1))) (fun _ hk => hk.2) (.int .i64 0)) (fun _ hk => hk.2) (.int .i64 0)) (fun _ hk => hk.2) (.int .i64 0)) (fun _ hk => hk.2) (.int .i64 0)) (fun _ hk => hk.2) (.int .i64 0)) (fun _ hk => hk.2) (.int .i64 (wrap64 ((rd x4_1 (ji24)) - 1)))) (fun _ hk => trivial)⟩, ⟨by (with_reducible repeat (first | refine blk_drewN ?_ _ | refine blk_drew ?_ | refine blk_alloc ?_ _)); refine blk_far ?_ NB133_150.out _; (with_reducible repeat (first | refine blk_drewN ?_ _ | refine blk_drew ?_ | refine blk_alloc ?_ _)); refine blk_far ?_ NB133_150.out _; (with_reducible repeat (first | refine blk_drewN ?_ _ | refine blk_drew ?_ | refine blk_alloc ?_ _)); refine blk_far ?_ NB133_150.out _; (with_reducible repeat (first | refine blk_drewN ?_ _ | refine blk_drew ?_ | refine blk_alloc ?_ _)); refine blk_far ?_ NB133_150.out _; (with_reducible repeat (first | refine blk_drewN ?_ _ | refine blk_drew ?_ | refine blk_alloc ?_ _)); refine blk_far ?_ NB133_150.out _; (with_reducible repeat (first | refine blk_drewN ?_ _ | refine blk_drew ?_ | refine blk_alloc ?_ _)); refine blk_far ?_ NB133_150.out _; (with_reducible repeat (first | refine blk_drewN ?_ _ | refine blk_drew ?_ | refine blk_alloc ?_ _)); refine blk_far ?_ NB133_150.out _; (with_reducible repeat (first | refine blk_drewN ?_ _ | refine blk_drew ?_ | refine blk_alloc ?_ _)); refine blk_far ?_ NB133_150.out _; (with_reducible repeat (first | refine blk_drewN ?_ _ | refine blk_drew ?_ | refine blk_alloc ?_ _)); refine blk_far ?_ NB133_150.out _; (with_reducible repeat (first | refine blk_drewN ?_ _ | refine blk_drew ?_ | refine blk_alloc ?_ _)); refine blk_far ?_ NB133_150.out _; (with_reducible repeat (first | refine blk_drewN ?_ _ | refine blk_drew ?_ | refine blk_alloc ?_ _)); exact BK133.out⟩, ⟨by (with_reducible repeat (first | refine blk_drewN ?_ _ | refine blk_drew ?_ | refine blk_alloc ?_ _)); refine blk_put (cs := #[.int .i64 (rd x4_1 0), .int .i64 (rd x4_1 1), .int .i64 (rd x4_1 2), .int .u64 (rd l0 1), .int .i64 0, .int .i64 0, .int .i64 0, .int .i64 0, .int .i64 0, .int .i64 0]) ?_ 9 _ rfl; (with_reducible repeat (first | refine blk_drewN ?_ _ | refine blk_drew ?_ | refine blk_alloc ?_ _)); refine blk_put (cs := #[.int .i64 (rd x4_1 0), .int .i64 (rd x4_1 1), .int .i64 (rd x4_1 2), .int .u64 (rd l0 1), .int .i64 0, .int .i64 0, .int .i64 0, .int .i64 0, .int .i64 0, .int .i64 0]) ?_ 8 _ rfl; (with_reducible repeat (first | refine blk_drewN ?_ _ | refine blk_drew ?_ | refine blk_alloc ?_ _)); refine blk_put (cs := #[.int .i64 (rd x4_1 0), .int .i64 (rd x4_1 1), .int .i64 (rd x4_1 2), .int .u64 (rd l0 1), .int .i64 0, .int .i64 0, .int .i64 0, .int .i64 0, .int .i64 0, .int .i64 0]) ?_ 7 _ rfl; (with_reducible repeat (first | refine blk_drewN ?_ _ | refine blk_drew ?_ | refine blk_alloc ?_ _)); refine blk_put (cs := #[.int .i64 (rd x4_1 0), .int .i64 (rd x4_1 1), .int .i64 (rd x4_1 2), .int .u64 (rd l0 1), .int .i64 0, .int .i64 0, .int .i64 0, .int .i64 0, .int .i64 0, .int .i64 0]) ?_ 6 _ rfl; (with_reducible repeat (first | refine blk_drewN ?_ _ | refine blk_drew ?_ | refine blk_alloc ?_ _)); refine blk_put (cs := #[.int .i64 (rd x4_1 0), .int .i64 (rd x4_1 1), .int .i64 (rd x4_1 2), .int .u64 (rd l0 1), .int .i64 0, .int .i64 0, .int .i64 0, .int .i64 0, .int .i64 0, .int .i64 0]) ?_ 5 _ rfl; (with_reducible repeat (first | refine blk_drewN ?_ _ | refine blk_drew ?_ | refine blk_alloc ?_ _)); refine blk_put (cs := #[.int .i64 (rd x4_1 0), .int .i64 (rd x4_1 1), .int .i64 (rd x4_1 2), .int .u64 (rd l0 1), .int .i64 0, .int .i64 0, .int .i64 0, .int .i64 0, .int .i64 0, .int .i64 0]) ?_ 4 _ rfl; (with_reducible repeat (first | refine blk_drewN ?_ _ | refine blk_drew ?_ | refine blk_alloc ?_ _)); refine blk_put (cs := #[.int .i64 (rd x4_1 0), .int .i64 (rd x4_1 1), .int .i64 (rd x4_1 2), .int .u64 0, .int .i64 0, .int .i64 0, .int .i64 0, .int .i64 0, .int .i64 0, .int .i64 0]) ?_ 3 _ rfl; (with_reducible repeat (first | refine blk_drewN ?_ _ | refine blk_drew ?_ | refine blk_alloc ?_ _)); refine blk_put (cs := #[.int .i64 (rd x4_1 0), .int .i64 (rd x4_1 1), .int .i64 0, .int .u64 0, .int .i64 0, .int .i64 0, .int .i64 0, .int .i64 0, .int .i64 0, .int .i64 0]) ?_ 2 _ rfl; (with_reducible repeat (first | refine blk_drewN ?_ _ | refine blk_drew ?_ | refine blk_alloc ?_ _)); refine blk_put (cs := #[.int .i64 (rd x4_1 0), .int .i64 0, .int .i64 0, .int .u64 0, .int .i64 0, .int .i64 0, .int .i64 0, .int .i64 0, .int .i64 0, .int .i64 0]) ?_ 1 _ rfl; (with_reducible repeat (first | refine blk_drewN ?_ _ | refine blk_drew ?_ | refine blk_alloc ?_ _)); refine blk_put (cs := #[.int .i64 0, .int .i64 0, .int .i64 0, .int .u64 0, .int .i64 0, .int .i64 0, .int .i64 0, .int .i64 0, .int .i64 0, .int .i64 0]) ?_ 0 _ rfl; (with_reducible repeat (first | refine blk_drewN ?_ _ | refine blk_drew ?_ | refine blk_alloc ?_ _)); exact BK150.out⟩, ⟨by repeat (first | (with_reducible first | exact HB.out | apply below_alloc | apply pw_below_drewN | apply below_drew1 | refine below_set ?_ GE133.out | refine below_set ?_ GE150.out) | exact HB.out)⟩⟩
                      case round =>
                        clear H'
                        try clear c1
                        try clear p1
                        try clear q1
                        try clear hx1
                        try clear qi1
                        try clear c2
                        try clear c2b0
                        try clear c2b1
                        try clear p2
                        try clear p6
                        try clear c7
                        try clear c7b0
                        try clear c8
                        try clear c8b0
                        try clear c9
                        try clear c9b0
                        try clear c10
                        try clear c10b0
                        try clear c11
                        try clear c11b0
                        try clear c13
                        try clear p13
                        try clear q13
                        try clear hx13
                        try clear c14
                        try clear p14
                        try clear q14
                        try clear hx14
                        try clear qi14
                        try clear c15
                        try clear c20
                        try clear c20b0
                        try clear c20b1
                        try clear c21
                        try clear c21b0
                        try clear c21b1
                        try clear c22
                        try clear c22b0
                        try clear c22b1
                        try clear c23
                        try clear c23b0
                        try clear c23b1
                        try clear c25
                        try clear c25b0
                        try clear c26
                        try clear c26b0
                        try clear hcz16_0
                        try clear hcz16_1
                        try clear hcz16_2
                        try clear hfz16_0
                        try clear hfz16_1
                        try clear hfz16_2
                        try clear hx137_0
                        try clear hx137_1
                        try clear hx137_2
                        try clear hx139_0
                        try clear hx145_0
                        try clear hx146_0
                        try clear hx147_0
                        try clear hx148_0
                        try clear hx149_0
                        try clear p137
                        try clear p139
                        try clear p145
                        try clear p146
                        try clear p147
                        try clear p148
                        try clear p149
                        try clear p2
                        try clear q137
                        try clear q139
                        try clear q145
                        try clear q146
                        try clear q147
                        try clear q148
                        try clear q149
                        obtain ⟨x62_2, x151004_2, x151005_2, x151006_2, x151007_2, x151008_2, rfl, HA, HK2, HO_4, BK133, BK150, HB⟩ := hrel
                        cases gk with
                        | zero => exact absurd HA.out (by simp [cards_Read.l1])
                        | succ k2 =>
                          have H := HA.out
                          clear HA
                          simp only [cards_Read.l1] at H
                          by_cases c40 : x62_2 < 5
                          · rw [if_pos c40] at H
                            have c40b0 : decide (x62_2 < 5) = true := decide_eq_true c40
                            clear c40
                            obtain ⟨ji41, hji41⟩ : ∃ j_ : Int, (wrap64 (3 + x62_2)) = j_ := ⟨_, rfl⟩
                            replace H : (if 0 ≤ (ji41) then (if (ji41) < (x4_1.length : Int) then (if x62_2 = 0 then (cards_Read.l1 k2 l0 x4_1 (wrap64 (x62_2 + 1)) (rd x4_1 0) (rd x4_1 1) (rd x4_1 2) (rd l0 1) (wrap64 ((rd x4_1 (ji41)) - 1)) x151005_2 x151006_2 x151007_2 x151008_2 (wrap64 ((rd x4_1 (ji24)) - 1))) else (if x62_2 = 1 then (cards_Read.l1 k2 l0 x4_1 (wrap64 (x62_2 + 1)) (rd x4_1 0) (rd x4_1 1) (rd x4_1 2) (rd l0 1) x151004_2 (wrap64 ((rd x4_1 (ji41)) - 1)) x151006_2 x151007_2 x151008_2 (wrap64 ((rd x4_1 (ji24)) - 1))) else (if x62_2 = 2 then (cards_Read.l1 k2 l0 x4_1 (wrap64 (x62_2 + 1)) (rd x4_1 0) (rd x4_1 1) (rd x4_1 2) (rd l0 1) x151004_2 x151005_2 (wrap64 ((rd x4_1 (ji41)) - 1)) x151007_2 x151008_2 (wrap64 ((rd x4_1 (ji24)) - 1))) else (if x62_2 = 3 then (cards_Read.l1 k2 l0 x4_1 (wrap64 (x62_2 + 1)) (rd x4_1 0) (rd x4_1 1) (rd x4_1 2) (rd l0 1) x151004_2 x151005_2 x151006_2 (wrap64 ((rd x4_1 (ji41)) - 1)) x151008_2 (wrap64 ((rd x4_1 (ji24)) - 1))) else (if x62_2 = 4 then (cards_Read.l1 k2 l0 x4_1 (wrap64 (x62_2 + 1)) (rd x4_1 0) (rd x4_1 1) (rd x4_1 2) (rd l0 1) x151004_2 x151005_2 x151006_2 x151007_2 (wrap64 ((rd x4_1 (ji41)) - 1)) (wrap64 ((rd x4_1 (ji24)) - 1))) else (none)))))) else (none)) else (none)) = some (r1, r2, r3, r4, r5, r6, r7, r8, r9, r10, r11) := by first | (rw [hji41] at H; exact H) | (simp only [hji41] at H ⊢; exact H)
                            have hji41w : (IntKind.i64.wrap (3 + x62_2)) = ji41 := (i64_w _).trans hji41
                            by_cases c42 : 0 ≤ (ji41)
                            · rw [if_pos c42] at H
                              have c42b0 : decide (0 ≤ (ji41)) = true := decide_eq_true c42
                              clear c42
                              by_cases c43 : (ji41) < (x4_1.length : Int)
                              · rw [if_pos c43] at H
                                have c43b0 : decide ((ji41) < (x4_1.length : Int)) = true := decide_eq_true c43
                                clear c43
                                by_cases c44 : x62_2 = 0
                                · subst c44
                                  have hzji41 : ji41 = 3 := by rw [← hji41]; kernel_rfl
                                  subst hzji41
                                  have H1 : (cards_Read.l1 k2 l0 x4_1 (wrap64 (0 + 1)) (rd x4_1 0) (rd x4_1 1) (rd x4_1 2) (rd l0 1) (wrap64 ((rd x4_1 3) - 1)) x151005_2 x151006_2 x151007_2 x151008_2 (wrap64 ((rd x4_1 (ji24)) - 1))) = some (r1, r2, r3, r4, r5, r6, r7, r8, r9, r10, r11) := by rw [if_pos rfl] at H; exact H
                                  clear H
                                  have H := H1
                                  clear H1
                                  have H' := Aside0.mk H
                                  clear H
                                  have p151 : 0 ≤ (3 : Int) := (by omega)
                                  have q151 : 3 < (x4_1.length : Int) := of_decide_eq_true (by first | (with_reducible assumption) | assumption)
                                  obtain ⟨ad151, e151, hx151_0⟩ := Kd.at_int (Kd.R_reads' HO_4.out).2.2 3 p151 q151
                                  obtain rfl : ad145 = ad151 := (by injection e151)
                                  (try simp only [show (3 : Int).toNat = 3 from rfl, Nat.reduceMul, Nat.reduceEqDiff, Go.Addr.add, ↓reduceIte] at hx151_0)
                                  have qi151 : (3 < x4_1.length) = True := eq_true (by omega)
                                  (try rw [show ((3 : Int)).toNat = 3 from rfl] at hx151_0)
                                  replace p151 := eq_true p151
                                  replace q151 := eq_true q151
                                  have hnb45 := NB150_133.out
                                  have hnc45 := NB133_150.out
                                  have hcz46_0 : wr.cell? ⟨gb150, 0, none⟩ = some (.int .i64 (rd x4_1 0)) := (blk_cell BK150.out 0).trans rfl
                                  have hcz46_1 : wr.cell? ⟨gb150, 1, none⟩ = some (.int .i64 (rd x4_1 1)) := (blk_cell BK150.out 1).trans rfl
                                  have hcz46_2 : wr.cell? ⟨gb150, 2, none⟩ = some (.int .i64 (rd x4_1 2)) := (blk_cell BK150.out 2).trans rfl
                                  have hcz46_3 : wr.cell? ⟨gb150, 3, none⟩ = some (.int .u64 (rd l0 1)) := (blk_cell BK150.out 3).trans rfl
                                  have hcz46_4 : wr.cell? ⟨gb150, 4, none⟩ = some (.int .i64 x151004_2) := (blk_cell BK150.out 4).trans rfl
                                  have hcz46_5 : wr.cell? ⟨gb150, 5, none⟩ = some (.int .i64 x151005_2) := (blk_cell BK150.out 5).trans rfl
                                  have hcz46_6 : wr.cell? ⟨gb150, 6, none⟩ = some (.int .i64 x151006_2) := (blk_cell BK150.out 6).trans rfl
                                  have hcz46_7 : wr.cell? ⟨gb150, 7, none⟩ = some (.int .i64 x151007_2) := (blk_cell BK150.out 7).trans rfl
                                  have hcz46_8 : wr.cell? ⟨gb150, 8, none⟩ = some (.int .i64 x151008_2) := (blk_cell BK150.out 8).trans rfl
                                  have hcz46_9 : wr.cell? ⟨gb150, 9, none⟩ = some (.int .i64 (wrap64 ((rd x4_1 (ji24)) - 1))) := (blk_cell BK150.out 9).trans rfl
                                  have hfz46_0 := blk_frozen BK150.out 0
                                  have hfz46_1 := blk_frozen BK150.out 1
                                  have hfz46_2 := blk_frozen BK150.out 2
                                  have hfz46_3 := blk_frozen BK150.out 3
                                  have hfz46_4 := blk_frozen BK150.out 4
                                  have hfz46_5 := blk_frozen BK150.out 5
                                  have hfz46_6 := blk_frozen BK150.out 6
                                  have hfz46_7 := blk_frozen BK150.out 7
                                  have hfz46_8 := blk_frozen BK150.out 8
                                  have hfz46_9 := blk_frozen BK150.out 9
                                  go_wp2
                                  go_roundg k2
                                  case measure => have := HK1.out; have := HK2.out; omega
                                  case rel => exact ⟨(wrap64 (0 + 1)), (wrap64 ((rd x4_1 3) - 1)), (x151005_2), (x151006_2), (x151007_2), (x151008_2), (by first | rfl | (simp; done) | (simp [*]; done) | kernel_rfl), H', ⟨by have := HK1.out; have := HK2.out; omega⟩, ⟨by (with_reducible repeat (first | apply Kd.R_alloc | apply Kd.R_drewN | apply Kd.R_drew)); exact Kd.R_mono (Kd.R_far (p := ⟨gb150, 4, none⟩) (Kd.R_types HO_4.out BK150.out (by decide)) (fun _ hk => hk.2) (.int .i64 (wrap64 ((rd x4_1 3) - 1)))) (fun _ hk => trivial)⟩, ⟨by (with_reducible repeat (first | refine blk_drewN ?_ _ | refine blk_drew ?_ | refine blk_alloc ?_ _)); refine blk_far ?_ NB133_150.out _; (with_reducible repeat (first | refine blk_drewN ?_ _ | refine blk_drew ?_ | refine blk_alloc ?_ _)); exact BK133.out⟩, ⟨by (with_reducible repeat (first | refine blk_drewN ?_ _ | refine blk_drew ?_ | refine blk_alloc ?_ _)); refine blk_put (cs := #[.int .i64 (rd x4_1 0), .int .i64 (rd x4_1 1), .int .i64 (rd x4_1 2), .int .u64 (rd l0 1), .int .i64 x151004_2, .int .i64 x151005_2, .int .i64 x151006_2, .int .i64 x151007_2, .int .i64 x151008_2, .int .i64 (wrap64 ((rd x4_1 (ji24)) - 1))]) ?_ 4 _ rfl; (with_reducible repeat (first | refine blk_drewN ?_ _ | refine blk_drew ?_ | refine blk_alloc ?_ _)); exact BK150.out⟩, ⟨by repeat (first | (with_reducible first | exact HB.out | apply below_alloc | apply pw_below_drewN | apply below_drew1 | refine below_set ?_ GE133.out | refine below_set ?_ GE150.out) | exact HB.out)⟩⟩
                                · rw [if_neg c44] at H
                                  by_cases c47 : x62_2 = 1
                                  · subst c47
                                    have hzji41 : ji41 = 4 := by rw [← hji41]; kernel_rfl
                                    subst hzji41
                                    have H1 : (cards_Read.l1 k2 l0 x4_1 (wrap64 (1 + 1)) (rd x4_1 0) (rd x4_1 1) (rd x4_1 2) (rd l0 1) x151004_2 (wrap64 ((rd x4_1 4) - 1)) x151006_2 x151007_2 x151008_2 (wrap64 ((rd x4_1 (ji24)) - 1))) = some (r1, r2, r3, r4, r5, r6, r7, r8, r9, r10, r11) := by rw [if_pos rfl] at H; exact H
                                    clear H
                                    have H := H1
                                    clear H1
                                    have H' := Aside0.mk H
                                    clear H
                                    have p151 : 0 ≤ (4 : Int) := (by omega)
                                    have q151 : 4 < (x4_1.length : Int) := of_decide_eq_true (by first | (with_reducible assumption) | assumption)
                                    obtain ⟨ad151, e151, hx151_0⟩ := Kd.at_int (Kd.R_reads' HO_4.out).2.2 4 p151 q151
                                    obtain rfl : ad145 = ad151 := (by injection e151)
                                    (try simp only [show (4 : Int).toNat = 4 from rfl, Nat.reduceMul, Nat.reduceEqDiff, Go.Addr.add, ↓reduceIte] at hx151_0)
                                    have qi151 : (4 < x4_1.length) = True := eq_true (by omega)
                                    (try rw [show ((4 : Int)).toNat = 4 from rfl] at hx151_0)
                                    replace p151 := eq_true p151
                                    replace q151 := eq_true q151
                                    have hnb48 := NB150_133.out
                                    have hnc48 := NB133_150.out
                                    have hcz49_0 : wr.cell? ⟨gb150, 0, none⟩ = some (.int .i64 (rd x4_1 0)) := (blk_cell BK150.out 0).trans rfl
                                    have hcz49_1 : wr.cell? ⟨gb150, 1, none⟩ = some (.int .i64 (rd x4_1 1)) := (blk_cell BK150.out 1).trans rfl
                                    have hcz49_2 : wr.cell? ⟨gb150, 2, none⟩ = some (.int .i64 (rd x4_1 2)) := (blk_cell BK150.out 2).trans rfl
                                    have hcz49_3 : wr.cell? ⟨gb150, 3, none⟩ = some (.int .u64 (rd l0 1)) := (blk_cell BK150.out 3).trans rfl
                                    have hcz49_4 : wr.cell? ⟨gb150, 4, none⟩ = some (.int .i64 x151004_2) := (blk_cell BK150.out 4).trans rfl
                                    have hcz49_5 : wr.cell? ⟨gb150, 5, none⟩ = some (.int .i64 x151005_2) := (blk_cell BK150.out 5).trans rfl
                                    have hcz49_6 : wr.cell? ⟨gb150, 6, none⟩ = some (.int .i64 x151006_2) := (blk_cell BK150.out 6).trans rfl
                                    have hcz49_7 : wr.cell? ⟨gb150, 7, none⟩ = some (.int .i64 x151007_2) := (blk_cell BK150.out 7).trans rfl
                                    have hcz49_8 : wr.cell? ⟨gb150, 8, none⟩ = some (.int .i64 x151008_2) := (blk_cell BK150.out 8).trans rfl
                                    have hcz49_9 : wr.cell? ⟨gb150, 9, none⟩ = some (.int .i64 (wrap64 ((rd x4_1 (ji24)) - 1))) := (blk_cell BK150.out 9).trans rfl
                                    have hfz49_0 := blk_frozen BK150.out 0
                                    have hfz49_1 := blk_frozen BK150.out 1
                                    have hfz49_2 := blk_frozen BK150.out 2
                                    have hfz49_3 := blk_frozen BK150.out 3
                                    have hfz49_4 := blk_frozen BK150.out 4
                                    have hfz49_5 := blk_frozen BK150.out 5
                                    have hfz49_6 := blk_frozen BK150.out 6
                                    have hfz49_7 := blk_frozen BK150.out 7
                                    have hfz49_8 := blk_frozen BK150.out 8
                                    have hfz49_9 := blk_frozen BK150.out 9
                                    go_wp2
                                    go_roundg k2
                                    case measure => have := HK1.out; have := HK2.out; omega
                                    case rel => exact ⟨(wrap64 (1 + 1)), (x151004_2), (wrap64 ((rd x4_1 4) - 1)), (x151006_2), (x151007_2), (x151008_2), (by first | rfl | (simp; done) | (simp [*]; done) | kernel_rfl), H', ⟨by have := HK1.out; have := HK2.out; omega⟩, ⟨by (with_reducible repeat (first | apply Kd.R_alloc | apply Kd.R_drewN | apply Kd.R_drew)); exact Kd.R_mono (Kd.R_far (p := ⟨gb150, 5, none⟩) (Kd.R_types HO_4.out BK150.out (by decide)) (fun _ hk => hk.2) (.int .i64 (wrap64 ((rd x4_1 4) - 1)))) (fun _ hk => trivial)⟩, ⟨by (with_reducible repeat (first | refine blk_drewN ?_ _ | refine blk_drew ?_ | refine blk_alloc ?_ _)); refine blk_far ?_ NB133_150.out _; (with_reducible repeat (first | refine blk_drewN ?_ _ | refine blk_drew ?_ | refine blk_alloc ?_ _)); exact BK133.out⟩, ⟨by (with_reducible repeat (first | refine blk_drewN ?_ _ | refine blk_drew ?_ | refine blk_alloc ?_ _)); refine blk_put (cs := #[.int .i64 (rd x4_1 0), .int .i64 (rd x4_1 1), .int .i64 (rd x4_1 2), .int .u64 (rd l0 1), .int .i64 x151004_2, .int .i64 x151005_2, .int .i64 x151006_2, .int .i64 x151007_2, .int .i64 x151008_2, .int .i64 (wrap64 ((rd x4_1 (ji24)) - 1))]) ?_ 5 _ rfl; (with_reducible repeat (first | refine blk_drewN ?_ _ | refine blk_drew ?_ | refine blk_alloc ?_ _)); exact BK150.out⟩, ⟨by repeat (first | (with_reducible first | exact HB.out | apply below_alloc | apply pw_below_drewN | apply below_drew1 | refine below_set ?_ GE133.out | refine below_set ?_ GE150.out) | exact HB.out)⟩⟩
                                  · rw [if_neg c47] at H
                                    by_cases c50 : x62_2 = 2
                                    · subst c50
                                      have hzji41 : ji41 = 5 := by rw [← hji41]; kernel_rfl
                                      subst hzji41
                                      have H1 : (cards_Read.l1 k2 l0 x4_1 (wrap64 (2 + 1)) (rd x4_1 0) (rd x4_1 1) (rd x4_1 2) (rd l0 1) x151004_2 x151005_2 (wrap64 ((rd x4_1 5) - 1)) x151007_2 x151008_2 (wrap64 ((rd x4_1 (ji24)) - 1))) = some (r1, r2, r3, r4, r5, r6, r7, r8, r9, r10, r11) := by rw [if_pos rfl] at H; exact H
                                      clear H
                                      have H := H1
                                      clear H1
                                      have H' := Aside0.mk H
                                      clear H
                                      have p151 : 0 ≤ (5 : Int) := (by omega)
                                      have q151 : 5 < (x4_1.length : Int) := of_decide_eq_true (by first | (with_reducible assumption) | assumption)
                                      obtain ⟨ad151, e151, hx151_0⟩ := Kd.at_int (Kd.R_reads' HO_4.out).2.2 5 p151 q151
                                      obtain rfl : ad145 = ad151 := (by injection e151)
                                      (try simp only [show (5 : Int).toNat = 5 from rfl, Nat.reduceMul, Nat.reduceEqDiff, Go.Addr.add, ↓reduceIte] at hx151_0)
                                      have qi151 : (5 < x4_1.length) = True := eq_true (by omega)
                                      (try rw [show ((5 : Int)).toNat = 5 from rfl] at hx151_0)
                                      replace p151 := eq_true p151
                                      replace q151 := eq_true q151
                                      have hnb51 := NB150_133.out
                                      have hnc51 := NB133_150.out
                                      have hcz52_0 : wr.cell? ⟨gb150, 0, none⟩ = some (.int .i64 (rd x4_1 0)) := (blk_cell BK150.out 0).trans rfl
                                      have hcz52_1 : wr.cell? ⟨gb150, 1, none⟩ = some (.int .i64 (rd x4_1 1)) := (blk_cell BK150.out 1).trans rfl
                                      have hcz52_2 : wr.cell? ⟨gb150, 2, none⟩ = some (.int .i64 (rd x4_1 2)) := (blk_cell BK150.out 2).trans rfl
                                      have hcz52_3 : wr.cell? ⟨gb150, 3, none⟩ = some (.int .u64 (rd l0 1)) := (blk_cell BK150.out 3).trans rfl
                                      have hcz52_4 : wr.cell? ⟨gb150, 4, none⟩ = some (.int .i64 x151004_2) := (blk_cell BK150.out 4).trans rfl
                                      have hcz52_5 : wr.cell? ⟨gb150, 5, none⟩ = some (.int .i64 x151005_2) := (blk_cell BK150.out 5).trans rfl
                                      have hcz52_6 : wr.cell? ⟨gb150, 6, none⟩ = some (.int .i64 x151006_2) := (blk_cell BK150.out 6).trans rfl
                                      have hcz52_7 : wr.cell? ⟨gb150, 7, none⟩ = some (.int .i64 x151007_2) := (blk_cell BK150.out 7).trans rfl
                                      have hcz52_8 : wr.cell? ⟨gb150, 8, none⟩ = some (.int .i64 x151008_2) := (blk_cell BK150.out 8).trans rfl
                                      have hcz52_9 : wr.cell? ⟨gb150, 9, none⟩ = some (.int .i64 (wrap64 ((rd x4_1 (ji24)) - 1))) := (blk_cell BK150.out 9).trans rfl
                                      have hfz52_0 := blk_frozen BK150.out 0
                                      have hfz52_1 := blk_frozen BK150.out 1
                                      have hfz52_2 := blk_frozen BK150.out 2
                                      have hfz52_3 := blk_frozen BK150.out 3
                                      have hfz52_4 := blk_frozen BK150.out 4
                                      have hfz52_5 := blk_frozen BK150.out 5
                                      have hfz52_6 := blk_frozen BK150.out 6
                                      have hfz52_7 := blk_frozen BK150.out 7
                                      have hfz52_8 := blk_frozen BK150.out 8
                                      have hfz52_9 := blk_frozen BK150.out 9
                                      go_wp2
                                      go_roundg k2
                                      case measure => have := HK1.out; have := HK2.out; omega
                                      case rel => exact ⟨(wrap64 (2 + 1)), (x151004_2), (x151005_2), (wrap64 ((rd x4_1 5) - 1)), (x151007_2), (x151008_2), (by first | rfl | (simp; done) | (simp [*]; done) | kernel_rfl), H', ⟨by have := HK1.out; have := HK2.out; omega⟩, ⟨by (with_reducible repeat (first | apply Kd.R_alloc | apply Kd.R_drewN | apply Kd.R_drew)); exact Kd.R_mono (Kd.R_far (p := ⟨gb150, 6, none⟩) (Kd.R_types HO_4.out BK150.out (by decide)) (fun _ hk => hk.2) (.int .i64 (wrap64 ((rd x4_1 5) - 1)))) (fun _ hk => trivial)⟩, ⟨by (with_reducible repeat (first | refine blk_drewN ?_ _ | refine blk_drew ?_ | refine blk_alloc ?_ _)); refine blk_far ?_ NB133_150.out _; (with_reducible repeat (first | refine blk_drewN ?_ _ | refine blk_drew ?_ | refine blk_alloc ?_ _)); exact BK133.out⟩, ⟨by (with_reducible repeat (first | refine blk_drewN ?_ _ | refine blk_drew ?_ | refine blk_alloc ?_ _)); refine blk_put (cs := #[.int .i64 (rd x4_1 0), .int .i64 (rd x4_1 1), .int .i64 (rd x4_1 2), .int .u64 (rd l0 1), .int .i64 x151004_2, .int .i64 x151005_2, .int .i64 x151006_2, .int .i64 x151007_2, .int .i64 x151008_2, .int .i64 (wrap64 ((rd x4_1 (ji24)) - 1))]) ?_ 6 _ rfl; (with_reducible repeat (first | refine blk_drewN ?_ _ | refine blk_drew ?_ | refine blk_alloc ?_ _)); exact BK150.out⟩, ⟨by repeat (first | (with_reducible first | exact HB.out | apply below_alloc | apply pw_below_drewN | apply below_drew1 | refine below_set ?_ GE133.out | refine below_set ?_ GE150.out) | exact HB.out)⟩⟩
                                    · rw [if_neg c50] at H
                                      by_cases c53 : x62_2 = 3
                                      · subst c53
                                        have hzji41 : ji41 = 6 := by rw [← hji41]; kernel_rfl
                                        subst hzji41
                                        have H1 : (cards_Read.l1 k2 l0 x4_1 (wrap64 (3 + 1)) (rd x4_1 0) (rd x4_1 1) (rd x4_1 2) (rd l0 1) x151004_2 x151005_2 x151006_2 (wrap64 ((rd x4_1 6) - 1)) x151008_2 (wrap64 ((rd x4_1 (ji24)) - 1))) = some (r1, r2, r3, r4, r5, r6, r7, r8, r9, r10, r11) := by rw [if_pos rfl] at H; exact H
                                        clear H
                                        have H := H1
                                        clear H1
                                        have H' := Aside0.mk H
                                        clear H
                                        have p151 : 0 ≤ (6 : Int) := (by omega)
                                        have q151 : 6 < (x4_1.length : Int) := of_decide_eq_true (by first | (with_reducible assumption) | assumption)
                                        obtain ⟨ad151, e151, hx151_0⟩ := Kd.at_int (Kd.R_reads' HO_4.out).2.2 6 p151 q151
                                        obtain rfl : ad145 = ad151 := (by injection e151)
                                        (try simp only [show (6 : Int).toNat = 6 from rfl, Nat.reduceMul, Nat.reduceEqDiff, Go.Addr.add, ↓reduceIte] at hx151_0)
                                        have qi151 : (6 < x4_1.length) = True := eq_true (by omega)
                                        (try rw [show ((6 : Int)).toNat = 6 from rfl] at hx151_0)
                                        replace p151 := eq_true p151
                                        replace q151 := eq_true q151
                                        have hnb54 := NB150_133.out
                                        have hnc54 := NB133_150.out
                                        have hcz55_0 : wr.cell? ⟨gb150, 0, none⟩ = some (.int .i64 (rd x4_1 0)) := (blk_cell BK150.out 0).trans rfl
                                        have hcz55_1 : wr.cell? ⟨gb150, 1, none⟩ = some (.int .i64 (rd x4_1 1)) := (blk_cell BK150.out 1).trans rfl
                                        have hcz55_2 : wr.cell? ⟨gb150, 2, none⟩ = some (.int .i64 (rd x4_1 2)) := (blk_cell BK150.out 2).trans rfl
                                        have hcz55_3 : wr.cell? ⟨gb150, 3, none⟩ = some (.int .u64 (rd l0 1)) := (blk_cell BK150.out 3).trans rfl
                                        have hcz55_4 : wr.cell? ⟨gb150, 4, none⟩ = some (.int .i64 x151004_2) := (blk_cell BK150.out 4).trans rfl
                                        have hcz55_5 : wr.cell? ⟨gb150, 5, none⟩ = some (.int .i64 x151005_2) := (blk_cell BK150.out 5).trans rfl
                                        have hcz55_6 : wr.cell? ⟨gb150, 6, none⟩ = some (.int .i64 x151006_2) := (blk_cell BK150.out 6).trans rfl
                                        have hcz55_7 : wr.cell? ⟨gb150, 7, none⟩ = some (.int .i64 x151007_2) := (blk_cell BK150.out 7).trans rfl
                                        have hcz55_8 : wr.cell? ⟨gb150, 8, none⟩ = some (.int .i64 x151008_2) := (blk_cell BK150.out 8).trans rfl
                                        have hcz55_9 : wr.cell? ⟨gb150, 9, none⟩ = some (.int .i64 (wrap64 ((rd x4_1 (ji24)) - 1))) := (blk_cell BK150.out 9).trans rfl
                                        have hfz55_0 := blk_frozen BK150.out 0
                                        have hfz55_1 := blk_frozen BK150.out 1
                                        have hfz55_2 := blk_frozen BK150.out 2
                                        have hfz55_3 := blk_frozen BK150.out 3
                                        have hfz55_4 := blk_frozen BK150.out 4
                                        have hfz55_5 := blk_frozen BK150.out 5
                                        have hfz55_6 := blk_frozen BK150.out 6
                                        have hfz55_7 := blk_frozen BK150.out 7
                                        have hfz55_8 := blk_frozen BK150.out 8
                                        have hfz55_9 := blk_frozen BK150.out 9
                                        go_wp2
                                        go_roundg k2
                                        case measure => have := HK1.out; have := HK2.out; omega
                                        case rel => exact ⟨(wrap64 (3 + 1)), (x151004_2), (x151005_2), (x151006_2), (wrap64 ((rd x4_1 6) - 1)), (x151008_2), (by first | rfl | (simp; done) | (simp [*]; done) | kernel_rfl), H', ⟨by have := HK1.out; have := HK2.out; omega⟩, ⟨by (with_reducible repeat (first | apply Kd.R_alloc | apply Kd.R_drewN | apply Kd.R_drew)); exact Kd.R_mono (Kd.R_far (p := ⟨gb150, 7, none⟩) (Kd.R_types HO_4.out BK150.out (by decide)) (fun _ hk => hk.2) (.int .i64 (wrap64 ((rd x4_1 6) - 1)))) (fun _ hk => trivial)⟩, ⟨by (with_reducible repeat (first | refine blk_drewN ?_ _ | refine blk_drew ?_ | refine blk_alloc ?_ _)); refine blk_far ?_ NB133_150.out _; (with_reducible repeat (first | refine blk_drewN ?_ _ | refine blk_drew ?_ | refine blk_alloc ?_ _)); exact BK133.out⟩, ⟨by (with_reducible repeat (first | refine blk_drewN ?_ _ | refine blk_drew ?_ | refine blk_alloc ?_ _)); refine blk_put (cs := #[.int .i64 (rd x4_1 0), .int .i64 (rd x4_1 1), .int .i64 (rd x4_1 2), .int .u64 (rd l0 1), .int .i64 x151004_2, .int .i64 x151005_2, .int .i64 x151006_2, .int .i64 x151007_2, .int .i64 x151008_2, .int .i64 (wrap64 ((rd x4_1 (ji24)) - 1))]) ?_ 7 _ rfl; (with_reducible repeat (first | refine blk_drewN ?_ _ | refine blk_drew ?_ | refine blk_alloc ?_ _)); exact BK150.out⟩, ⟨by repeat (first | (with_reducible first | exact HB.out | apply below_alloc | apply pw_below_drewN | apply below_drew1 | refine below_set ?_ GE133.out | refine below_set ?_ GE150.out) | exact HB.out)⟩⟩
                                      · rw [if_neg c53] at H
                                        by_cases c56 : x62_2 = 4
                                        · subst c56
                                          have hzji41 : ji41 = 7 := by rw [← hji41]; kernel_rfl
                                          subst hzji41
                                          have H1 : (cards_Read.l1 k2 l0 x4_1 (wrap64 (4 + 1)) (rd x4_1 0) (rd x4_1 1) (rd x4_1 2) (rd l0 1) x151004_2 x151005_2 x151006_2 x151007_2 (wrap64 ((rd x4_1 7) - 1)) (wrap64 ((rd x4_1 (ji24)) - 1))) = some (r1, r2, r3, r4, r5, r6, r7, r8, r9, r10, r11) := by rw [if_pos rfl] at H; exact H
                                          clear H
                                          have H := H1
                                          clear H1
                                          have H' := Aside0.mk H
                                          clear H
                                          have p151 : 0 ≤ (7 : Int) := (by omega)
                                          have q151 : 7 < (x4_1.length : Int) := of_decide_eq_true (by first | (with_reducible assumption) | assumption)
                                          obtain ⟨ad151, e151, hx151_0⟩ := Kd.at_int (Kd.R_reads' HO_4.out).2.2 7 p151 q151
                                          obtain rfl : ad145 = ad151 := (by injection e151)
                                          (try simp only [show (7 : Int).toNat = 7 from rfl, Nat.reduceMul, Nat.reduceEqDiff, Go.Addr.add, ↓reduceIte] at hx151_0)
                                          have qi151 : (7 < x4_1.length) = True := eq_true (by omega)
                                          (try rw [show ((7 : Int)).toNat = 7 from rfl] at hx151_0)
                                          replace p151 := eq_true p151
                                          replace q151 := eq_true q151
                                          have hnb57 := NB150_133.out
                                          have hnc57 := NB133_150.out
                                          have hcz58_0 : wr.cell? ⟨gb150, 0, none⟩ = some (.int .i64 (rd x4_1 0)) := (blk_cell BK150.out 0).trans rfl
                                          have hcz58_1 : wr.cell? ⟨gb150, 1, none⟩ = some (.int .i64 (rd x4_1 1)) := (blk_cell BK150.out 1).trans rfl
                                          have hcz58_2 : wr.cell? ⟨gb150, 2, none⟩ = some (.int .i64 (rd x4_1 2)) := (blk_cell BK150.out 2).trans rfl
                                          have hcz58_3 : wr.cell? ⟨gb150, 3, none⟩ = some (.int .u64 (rd l0 1)) := (blk_cell BK150.out 3).trans rfl
                                          have hcz58_4 : wr.cell? ⟨gb150, 4, none⟩ = some (.int .i64 x151004_2) := (blk_cell BK150.out 4).trans rfl
                                          have hcz58_5 : wr.cell? ⟨gb150, 5, none⟩ = some (.int .i64 x151005_2) := (blk_cell BK150.out 5).trans rfl
                                          have hcz58_6 : wr.cell? ⟨gb150, 6, none⟩ = some (.int .i64 x151006_2) := (blk_cell BK150.out 6).trans rfl
                                          have hcz58_7 : wr.cell? ⟨gb150, 7, none⟩ = some (.int .i64 x151007_2) := (blk_cell BK150.out 7).trans rfl
                                          have hcz58_8 : wr.cell? ⟨gb150, 8, none⟩ = some (.int .i64 x151008_2) := (blk_cell BK150.out 8).trans rfl
                                          have hcz58_9 : wr.cell? ⟨gb150, 9, none⟩ = some (.int .i64 (wrap64 ((rd x4_1 (ji24)) - 1))) := (blk_cell BK150.out 9).trans rfl
                                          have hfz58_0 := blk_frozen BK150.out 0
                                          have hfz58_1 := blk_frozen BK150.out 1
                                          have hfz58_2 := blk_frozen BK150.out 2
                                          have hfz58_3 := blk_frozen BK150.out 3
                                          have hfz58_4 := blk_frozen BK150.out 4
                                          have hfz58_5 := blk_frozen BK150.out 5
                                          have hfz58_6 := blk_frozen BK150.out 6
                                          have hfz58_7 := blk_frozen BK150.out 7
                                          have hfz58_8 := blk_frozen BK150.out 8
                                          have hfz58_9 := blk_frozen BK150.out 9
                                          go_wp2
                                          go_roundg k2
                                          case measure => have := HK1.out; have := HK2.out; omega
                                          case rel => exact ⟨(wrap64 (4 + 1)), (x151004_2), (x151005_2), (x151006_2), (x151007_2), (wrap64 ((rd x4_1 7) - 1)), (by first | rfl | (simp; done) | (simp [*]; done) | kernel_rfl), H', ⟨by have := HK1.out; have := HK2.out; omega⟩, ⟨by (with_reducible repeat (first | apply Kd.R_alloc | apply Kd.R_drewN | apply Kd.R_drew)); exact Kd.R_mono (Kd.R_far (p := ⟨gb150, 8, none⟩) (Kd.R_types HO_4.out BK150.out (by decide)) (fun _ hk => hk.2) (.int .i64 (wrap64 ((rd x4_1 7) - 1)))) (fun _ hk => trivial)⟩, ⟨by (with_reducible repeat (first | refine blk_drewN ?_ _ | refine blk_drew ?_ | refine blk_alloc ?_ _)); refine blk_far ?_ NB133_150.out _; (with_reducible repeat (first | refine blk_drewN ?_ _ | refine blk_drew ?_ | refine blk_alloc ?_ _)); exact BK133.out⟩, ⟨by (with_reducible repeat (first | refine blk_drewN ?_ _ | refine blk_drew ?_ | refine blk_alloc ?_ _)); refine blk_put (cs := #[.int .i64 (rd x4_1 0), .int .i64 (rd x4_1 1), .int .i64 (rd x4_1 2), .int .u64 (rd l0 1), .int .i64 x151004_2, .int .i64 x151005_2, .int .i64 x151006_2, .int .i64 x151007_2, .int .i64 x151008_2, .int .i64 (wrap64 ((rd x4_1 (ji24)) - 1))]) ?_ 8 _ rfl; (with_reducible repeat (first | refine blk_drewN ?_ _ | refine blk_drew ?_ | refine blk_alloc ?_ _)); exact BK150.out⟩, ⟨by repeat (first | (with_reducible first | exact HB.out | apply below_alloc | apply pw_below_drewN | apply below_drew1 | refine below_set ?_ GE133.out | refine below_set ?_ GE150.out) | exact HB.out)⟩⟩
                                        · rw [if_neg c56] at H
                                          exact absurd H (by simp)
                              · rw [if_neg c43] at H
                                exact absurd H (by simp)
                            · rw [if_neg c42] at H
                              exact absurd H (by simp)
                          · rw [if_neg c40] at H
                            have c40b0 : decide (x62_2 < 5) = false := decide_eq_false c40
                            clear c40
                            replace H := Option.bind_eq_some_iff.mp H
                            obtain ⟨⟨t152, t155⟩, A590, H⟩ := H
                            replace H : (if t155 = 0 then ((slices_Equal_uint64_uint64.f k2 t152 l0).bind fun t156 => (if t156 = true then (some ((rd x4_1 0), (rd x4_1 1), (rd x4_1 2), (rd l0 1), x151004_2, x151005_2, x151006_2, x151007_2, x151008_2, (wrap64 ((rd x4_1 (ji24)) - 1)), 0)) else (some (0, 0, 0, 0, 0, 0, 0, 0, 0, 0, 15)))) else (some (0, 0, 0, 0, 0, 0, 0, 0, 0, 0, 15))) = some (r1, r2, r3, r4, r5, r6, r7, r8, r9, r10, r11) := H
                            have A59 := Aside0.mk A590
                            clear A590
                            by_cases c60 : t155 = 0
                            · rw [if_pos c60] at H
                              have c60b0 : (t155 == 0) = true := beq_iff_eq.mpr c60
                              have c60b1 : (t155 != 0) = false := bne_eq_false_iff_eq.mpr c60
                              clear c60
                              replace H := Option.bind_eq_some_iff.mp H
                              obtain ⟨t156, A610, H⟩ := H
                              replace H : (if t156 = true then (some ((rd x4_1 0), (rd x4_1 1), (rd x4_1 2), (rd l0 1), x151004_2, x151005_2, x151006_2, x151007_2, x151008_2, (wrap64 ((rd x4_1 (ji24)) - 1)), 0)) else (some (0, 0, 0, 0, 0, 0, 0, 0, 0, 0, 15))) = some (r1, r2, r3, r4, r5, r6, r7, r8, r9, r10, r11) := H
                              have A61 := Aside0.mk A610
                              clear A610
                              by_cases c62 : t156 = true
                              · subst c62
                                have H1 : (some ((rd x4_1 0), (rd x4_1 1), (rd x4_1 2), (rd l0 1), x151004_2, x151005_2, x151006_2, x151007_2, x151008_2, (wrap64 ((rd x4_1 (ji24)) - 1)), 0)) = some (r1, r2, r3, r4, r5, r6, r7, r8, r9, r10, r11) := by rw [if_pos rfl] at H; exact H
                                clear H
                                have H := H1
                                clear H1
                                simp only [Option.some.injEq, Prod.mk.injEq] at H
                                obtain ⟨rfl, rfl, rfl, rfl, rfl, rfl, rfl, rfl, rfl, rfl, rfl⟩ := H
                                have hnb63 := NB150_133.out
                                have hnc63 := NB133_150.out
                                have hcz64_0 : wr.cell? ⟨gb150, 0, none⟩ = some (.int .i64 (rd x4_1 0)) := (blk_cell BK150.out 0).trans rfl
                                have hcz64_1 : wr.cell? ⟨gb150, 1, none⟩ = some (.int .i64 (rd x4_1 1)) := (blk_cell BK150.out 1).trans rfl
                                have hcz64_2 : wr.cell? ⟨gb150, 2, none⟩ = some (.int .i64 (rd x4_1 2)) := (blk_cell BK150.out 2).trans rfl
                                have hcz64_3 : wr.cell? ⟨gb150, 3, none⟩ = some (.int .u64 (rd l0 1)) := (blk_cell BK150.out 3).trans rfl
                                have hcz64_4 : wr.cell? ⟨gb150, 4, none⟩ = some (.int .i64 x151004_2) := (blk_cell BK150.out 4).trans rfl
                                have hcz64_5 : wr.cell? ⟨gb150, 5, none⟩ = some (.int .i64 x151005_2) := (blk_cell BK150.out 5).trans rfl
                                have hcz64_6 : wr.cell? ⟨gb150, 6, none⟩ = some (.int .i64 x151006_2) := (blk_cell BK150.out 6).trans rfl
                                have hcz64_7 : wr.cell? ⟨gb150, 7, none⟩ = some (.int .i64 x151007_2) := (blk_cell BK150.out 7).trans rfl
                                have hcz64_8 : wr.cell? ⟨gb150, 8, none⟩ = some (.int .i64 x151008_2) := (blk_cell BK150.out 8).trans rfl
                                have hcz64_9 : wr.cell? ⟨gb150, 9, none⟩ = some (.int .i64 (wrap64 ((rd x4_1 (ji24)) - 1))) := (blk_cell BK150.out 9).trans rfl
                                have hfz64_0 := blk_frozen BK150.out 0
                                have hfz64_1 := blk_frozen BK150.out 1
                                have hfz64_2 := blk_frozen BK150.out 2
                                have hfz64_3 := blk_frozen BK150.out 3
                                have hfz64_4 := blk_frozen BK150.out 4
                                have hfz64_5 := blk_frozen BK150.out 5
                                have hfz64_6 := blk_frozen BK150.out 6
                                have hfz64_7 := blk_frozen BK150.out 7
                                have hfz64_8 := blk_frozen BK150.out 8
                                have hfz64_9 := blk_frozen BK150.out 9
                                go_wp2_with (first | ((with_reducible refine gate_callee (f := 9) rfl ?_); refine goesL_ (some 77) rfl rfl Try.func9 (by kernel_rfl) rfl #[.agg #[.int .i64 (rd x4_1 0), .int .i64 (rd x4_1 1), .int .i64 (rd x4_1 2), .int .u64 (rd l0 1), .int .i64 x151004_2, .int .i64 x151005_2, .int .i64 x151006_2, .int .i64 x151007_2, .int .i64 x151008_2, .int .i64 (wrap64 ((rd x4_1 (ji24)) - 1))]] rfl (by (try simp only [List.map_toArray, List.map_cons, List.map_nil]); first | done | (simp only [hji24]; rfl) | rfl | (simp only [List.length_drop, List.length_take]; rfl)) ?_; (with_reducible refine (cards_Write.calls k2 (rd x4_1 0) (rd x4_1 1) (rd x4_1 2) (rd l0 1) x151004_2 x151005_2 x151006_2 x151007_2 x151008_2 (wrap64 ((rd x4_1 (ji24)) - 1)) t152 t155 _ A59.out).mono ?_); rintro e w65 ⟨v153, rfl, ho0, hb⟩; refine ⟨_, rfl, ?_⟩; have n0_ := Aside0.mk (Kd.R_below (by (with_reducible repeat (first | apply Kd.R_alloc | apply Kd.R_drewN | apply Kd.R_drew)); exact HO_4.out) hb); have n1_ := Aside0.mk (Kd.R_lower ho0 (below_size (by repeat (first | (with_reducible first | exact HB.out | apply below_alloc | apply pw_below_drewN | apply below_drew1 | refine below_set ?_ GE133.out | refine below_set ?_ GE150.out) | exact HB.out)))); have n2_ := Aside0.mk (blk_below (g := gb133) (o := .cells #[.int .i64 0, .int .i64 0, .int .i64 0, .int .u64 0, .int .i64 0, .int .i64 0, .int .i64 0, .int .i64 0, .int .i64 0, .int .i64 0] 25 (0, 0)) (by (with_reducible repeat (first | refine blk_drewN ?_ _ | refine blk_drew ?_ | refine blk_alloc ?_ _)); exact BK133.out) hb); have n3_ := Aside0.mk (blk_below (g := gb150) (o := .cells #[.int .i64 (rd x4_1 0), .int .i64 (rd x4_1 1), .int .i64 (rd x4_1 2), .int .u64 (rd l0 1), .int .i64 x151004_2, .int .i64 x151005_2, .int .i64 x151006_2, .int .i64 x151007_2, .int .i64 x151008_2, .int .i64 (wrap64 ((rd x4_1 (ji24)) - 1))] 25 (0, 0)) (by (with_reducible repeat (first | refine blk_drewN ?_ _ | refine blk_drew ?_ | refine blk_alloc ?_ _)); exact BK150.out) hb); have n4_ := Aside0.mk (below_step (by repeat (first | (with_reducible first | exact HB.out | apply below_alloc | apply pw_below_drewN | apply below_drew1 | refine below_set ?_ GE133.out | refine below_set ?_ GE150.out) | exact HB.out)) hb); clear HO_4; clear BK133; clear BK150; clear HB; have HO_4 := n0_; have HO154 := n1_; have BK133 := n2_; have BK150 := n3_; have HB := n4_; clear n0_ n1_ n2_ n3_ n4_; (try clear hb); (try clear hb2); (try clear hk); (try clear hi); (try clear ho0); obtain ⟨Ao66, co66, eo66⟩ := Kd.R_slice HO154.out; subst eo66) | (go_at_call 27; (with_reducible refine (slices_Equal_uint64_uint64.calls k2 _ _ t152 _ _ l0 true _ ?side1 ?side2 ?side3 ?side4 A61.out).mono ?_); (case side1 => repeat (first | exact (Kd.R_reads' HO154.out).2.2 | (with_reducible refine Kd.C_alloc ?_ _) | (with_reducible refine Kd.C_drewN ?_ _) | (with_reducible refine Kd.C_drew ?_))); (case side2 => exact (Kd.R_reads' HO154.out).2.1); (case side3 => repeat (first | exact (Kd.C_below HR0.out HB.out) | (with_reducible refine Kd.C_alloc ?_ _) | (with_reducible refine Kd.C_drewN ?_ _) | (with_reducible refine Kd.C_drew ?_))); (case side4 => exact HC0.out); rintro e w' ⟨rfl, ⟨nd, rfl⟩⟩; (try (rw [drewN_self w65]; generalize hq_ : World.drewN w65 _ = w65; have n0_ : Aside0 (Kd.R (Kd.int .u64) 22 w65 w.heap.size (fun _ => True) (.slice Ao66 t152.length co66) t152) := ⟨by rw [← hq_]; exact (by (with_reducible repeat (first | apply Kd.R_alloc | apply Kd.R_drewN | apply Kd.R_drew)); exact HO154.out)⟩; have n1_ : Aside0 (Kd.R (Kd.int .i64) 3 w65 w.heap.size (fun _ => True) (.slice (some ad145) x4_1.length co28) x4_1) := ⟨by rw [← hq_]; exact (by (with_reducible repeat (first | apply Kd.R_alloc | apply Kd.R_drewN | apply Kd.R_drew)); exact HO_4.out)⟩; have n2_ : Aside0 (w65.heap[gb133]? = some (.cells #[.int .i64 0, .int .i64 0, .int .i64 0, .int .u64 0, .int .i64 0, .int .i64 0, .int .i64 0, .int .i64 0, .int .i64 0, .int .i64 0] 25 (0, 0))) := ⟨by rw [← hq_]; exact (by (with_reducible repeat (first | refine blk_drewN ?_ _ | refine blk_drew ?_ | refine blk_alloc ?_ _)); exact BK133.out)⟩; have n3_ : Aside0 (w65.heap[gb150]? = some (.cells #[.int .i64 (rd x4_1 0), .int .i64 (rd x4_1 1), .int .i64 (rd x4_1 2), .int .u64 (rd l0 1), .int .i64 x151004_2, .int .i64 x151005_2, .int .i64 x151006_2, .int .i64 x151007_2, .int .i64 x151008_2, .int .i64 (wrap64 ((rd x4_1 (ji24)) - 1))] 25 (0, 0))) := ⟨by rw [← hq_]; exact (by (with_reducible repeat (first | refine blk_drewN ?_ _ | refine blk_drew ?_ | refine blk_alloc ?_ _)); exact BK150.out)⟩; have n4_ : Aside0 (Below w.heap.size w w65) := ⟨by rw [← hq_]; exact (by repeat (first | (with_reducible first | exact HB.out | apply below_alloc | apply pw_below_drewN | apply below_drew1 | refine below_set ?_ GE133.out | refine below_set ?_ GE150.out) | exact HB.out))⟩; clear HO154 HO_4 BK133 BK150 HB hq_; have HO154 := n0_; have HO_4 := n1_; have BK133 := n2_; have BK150 := n3_; have HB := n4_; clear n0_ n1_ n2_ n3_ n4_)); have hcz67_0 : w65.cell? ⟨gb150, 0, none⟩ = some (.int .i64 (rd x4_1 0)) := (blk_cell BK150.out 0).trans rfl; have hcz67_1 : w65.cell? ⟨gb150, 1, none⟩ = some (.int .i64 (rd x4_1 1)) := (blk_cell BK150.out 1).trans rfl; have hcz67_2 : w65.cell? ⟨gb150, 2, none⟩ = some (.int .i64 (rd x4_1 2)) := (blk_cell BK150.out 2).trans rfl; have hcz67_3 : w65.cell? ⟨gb150, 3, none⟩ = some (.int .u64 (rd l0 1)) := (blk_cell BK150.out 3).trans rfl; have hcz67_4 : w65.cell? ⟨gb150, 4, none⟩ = some (.int .i64 x151004_2) := (blk_cell BK150.out 4).trans rfl; have hcz67_5 : w65.cell? ⟨gb150, 5, none⟩ = some (.int .i64 x151005_2) := (blk_cell BK150.out 5).trans rfl; have hcz67_6 : w65.cell? ⟨gb150, 6, none⟩ = some (.int .i64 x151006_2) := (blk_cell BK150.out 6).trans rfl; have hcz67_7 : w65.cell? ⟨gb150, 7, none⟩ = some (.int .i64 x151007_2) := (blk_cell BK150.out 7).trans rfl; have hcz67_8 : w65.cell? ⟨gb150, 8, none⟩ = some (.int .i64 x151008_2) := (blk_cell BK150.out 8).trans rfl; have hcz67_9 : w65.cell? ⟨gb150, 9, none⟩ = some (.int .i64 (wrap64 ((rd x4_1 (ji24)) - 1))) := (blk_cell BK150.out 9).trans rfl; have hfz67_0 := blk_frozen BK150.out 0; have hfz67_1 := blk_frozen BK150.out 1; have hfz67_2 := blk_frozen BK150.out 2; have hfz67_3 := blk_frozen BK150.out 3; have hfz67_4 := blk_frozen BK150.out 4; have hfz67_5 := blk_frozen BK150.out 5; have hfz67_6 := blk_frozen BK150.out 6; have hfz67_7 := blk_frozen BK150.out 7; have hfz67_8 := blk_frozen BK150.out 8; have hfz67_9 := blk_frozen BK150.out 9; have hcz68_0 : w65.cell? ⟨gb133, 0, none⟩ = some (.int .i64 0) := (blk_cell BK133.out 0).trans rfl; have hcz68_1 : w65.cell? ⟨gb133, 1, none⟩ = some (.int .i64 0) := (blk_cell BK133.out 1).trans rfl; have hcz68_2 : w65.cell? ⟨gb133, 2, none⟩ = some (.int .i64 0) := (blk_cell BK133.out 2).trans rfl; have hcz68_3 : w65.cell? ⟨gb133, 3, none⟩ = some (.int .u64 0) := (blk_cell BK133.out 3).trans rfl; have hcz68_4 : w65.cell? ⟨gb133, 4, none⟩ = some (.int .i64 0) := (blk_cell BK133.out 4).trans rfl; have hcz68_5 : w65.cell? ⟨gb133, 5, none⟩ = some (.int .i64 0) := (blk_cell BK133.out 5).trans rfl; have hcz68_6 : w65.cell? ⟨gb133, 6, none⟩ = some (.int .i64 0) := (blk_cell BK133.out 6).trans rfl; have hcz68_7 : w65.cell? ⟨gb133, 7, none⟩ = some (.int .i64 0) := (blk_cell BK133.out 7).trans rfl; have hcz68_8 : w65.cell? ⟨gb133, 8, none⟩ = some (.int .i64 0) := (blk_cell BK133.out 8).trans rfl; have hcz68_9 : w65.cell? ⟨gb133, 9, none⟩ = some (.int .i64 0) := (blk_cell BK133.out 9).trans rfl; have hfz68_0 := blk_frozen BK133.out 0; have hfz68_1 := blk_frozen BK133.out 1; have hfz68_2 := blk_frozen BK133.out 2; have hfz68_3 := blk_frozen BK133.out 3; have hfz68_4 := blk_frozen BK133.out 4; have hfz68_5 := blk_frozen BK133.out 5; have hfz68_6 := blk_frozen BK133.out 6; have hfz68_7 := blk_frozen BK133.out 7; have hfz68_8 := blk_frozen BK133.out 8; have hfz68_9 := blk_frozen BK133.out 9) | ((with_reducible refine gate_store (t := 25) (p := 2) rfl ?_); refine store_event (t := 25) (p := 2) (v := ?vo_w69) (w1 := ((((((((((w65.setCell ⟨gb133, 0, none⟩ (.int .i64 (rd x4_1 0))).setCell ⟨gb133, 1, none⟩ (.int .i64 (rd x4_1 1))).setCell ⟨gb133, 2, none⟩ (.int .i64 (rd x4_1 2))).setCell ⟨gb133, 3, none⟩ (.int .u64 (rd l0 1))).setCell ⟨gb133, 4, none⟩ (.int .i64 x151004_2)).setCell ⟨gb133, 5, none⟩ (.int .i64 x151005_2)).setCell ⟨gb133, 6, none⟩ (.int .i64 x151006_2)).setCell ⟨gb133, 7, none⟩ (.int .i64 x151007_2)).setCell ⟨gb133, 8, none⟩ (.int .i64 x151008_2)).setCell ⟨gb133, 9, none⟩ (.int .i64 (wrap64 ((rd x4_1 (ji24)) - 1))))) ?hg ?ho ?hn ?hr ?_; (case ho => rfl); (case hg => rfl); (case hn => rfl); (case hr => exact pr_store_exec rfl rfl rfl (run_store_run (P := Try.prog) (o := 0) (cur := #[.int .i64 0, .int .i64 0, .int .i64 0, .int .u64 0, .int .i64 0, .int .i64 0, .int .i64 0, .int .i64 0, .int .i64 0, .int .i64 0]) 25 (.agg #[.int .i64 (rd x4_1 0), .int .i64 (rd x4_1 1), .int .i64 (rd x4_1 2), .int .u64 (rd l0 1), .int .i64 x151004_2, .int .i64 x151005_2, .int .i64 x151006_2, .int .i64 x151007_2, .int .i64 x151008_2, .int .i64 (wrap64 ((rd x4_1 (ji24)) - 1))]) [.int .i64 (rd x4_1 0), .int .i64 (rd x4_1 1), .int .i64 (rd x4_1 2), .int .u64 (rd l0 1), .int .i64 x151004_2, .int .i64 x151005_2, .int .i64 x151006_2, .int .i64 x151007_2, .int .i64 x151008_2, .int .i64 (wrap64 ((rd x4_1 (ji24)) - 1))] (show _ = some (Obj.cells #[.int .i64 0, .int .i64 0, .int .i64 0, .int .u64 0, .int .i64 0, .int .i64 0, .int .i64 0, .int .i64 0, .int .i64 0, .int .i64 0] 25 (0, 0)) from (by (with_reducible repeat (first | refine blk_drewN ?_ _ | refine blk_drew ?_ | refine blk_alloc ?_ _)); exact BK133.out)) rfl (by kernel_rfl) (show 10 ≤ 10 by decide) (by intro q_ hq_; simp only [List.mem_cons, List.not_mem_nil, or_false] at hq_; rcases hq_ with rfl | rfl | rfl | rfl | rfl | rfl | rfl | rfl | rfl | rfl <;> rfl))); intro w69 hw; have n0_ : Aside0 (Kd.R (Kd.int .i64) 3 w69 w.heap.size (fun _ => True) (.slice (some ad145) x4_1.length co28) x4_1) := ⟨(by rw [hw]; exact (by (with_reducible repeat (first | apply Kd.R_alloc | apply Kd.R_drewN | apply Kd.R_drew)); exact Kd.R_mono (Kd.R_far (p := ⟨gb133, 9, none⟩) (Kd.R_far (p := ⟨gb133, 8, none⟩) (Kd.R_far (p := ⟨gb133, 7, none⟩) (Kd.R_far (p := ⟨gb133, 6, none⟩) (Kd.R_far (p := ⟨gb133, 5, none⟩) (Kd.R_far (p := ⟨gb133, 4, none⟩) (Kd.R_far (p := ⟨gb133, 3, none⟩) (Kd.R_far (p := ⟨gb133, 2, none⟩) (Kd.R_far (p := ⟨gb133, 1, none⟩) (Kd.R_far (p := ⟨gb133, 0, none⟩) (Kd.R_types HO_4.out BK133.out (by decide)) (fun _ hk => hk.2) (.int .i64 (rd x4_1 0))) (fun _ hk => hk.2) (.int .i64 (rd x4_1 1))) (fun _ hk => hk.2) (.int .i64 (rd x4_1 2))) (fun _ hk => hk.2) (.int .u64 (rd l0 1))) (fun _ hk => hk.2) (.int .i64 x151004_2)) (fun _ hk => hk.2) (.int .i64 x151005_2)) (fun _ hk => hk.2) (.int .i64 x151006_2)) (fun _ hk => hk.2) (.int .i64 x151007_2)) (fun _ hk => hk.2) (.int .i64 x151008_2)) (fun _ hk => hk.2) (.int .i64 (wrap64 ((rd x4_1 (ji24)) - 1)))) (fun _ hk => trivial)))⟩; have n1_ : Aside0 (Kd.R (Kd.int .u64) 22 w69 w.heap.size (fun _ => True) (.slice Ao66 t152.length co66) t152) := ⟨(by rw [hw]; exact (by (with_reducible repeat (first | apply Kd.R_alloc | apply Kd.R_drewN | apply Kd.R_drew)); exact Kd.R_mono (Kd.R_far (p := ⟨gb133, 9, none⟩) (Kd.R_far (p := ⟨gb133, 8, none⟩) (Kd.R_far (p := ⟨gb133, 7, none⟩) (Kd.R_far (p := ⟨gb133, 6, none⟩) (Kd.R_far (p := ⟨gb133, 5, none⟩) (Kd.R_far (p := ⟨gb133, 4, none⟩) (Kd.R_far (p := ⟨gb133, 3, none⟩) (Kd.R_far (p := ⟨gb133, 2, none⟩) (Kd.R_far (p := ⟨gb133, 1, none⟩) (Kd.R_far (p := ⟨gb133, 0, none⟩) (Kd.R_types HO154.out BK133.out (by decide)) (fun _ hk => hk.2) (.int .i64 (rd x4_1 0))) (fun _ hk => hk.2) (.int .i64 (rd x4_1 1))) (fun _ hk => hk.2) (.int .i64 (rd x4_1 2))) (fun _ hk => hk.2) (.int .u64 (rd l0 1))) (fun _ hk => hk.2) (.int .i64 x151004_2)) (fun _ hk => hk.2) (.int .i64 x151005_2)) (fun _ hk => hk.2) (.int .i64 x151006_2)) (fun _ hk => hk.2) (.int .i64 x151007_2)) (fun _ hk => hk.2) (.int .i64 x151008_2)) (fun _ hk => hk.2) (.int .i64 (wrap64 ((rd x4_1 (ji24)) - 1)))) (fun _ hk => trivial)))⟩; have n2_ : Aside0 (w69.heap[gb133]? = some (.cells #[.int .i64 (rd x4_1 0), .int .i64 (rd x4_1 1), .int .i64 (rd x4_1 2), .int .u64 (rd l0 1), .int .i64 x151004_2, .int .i64 x151005_2, .int .i64 x151006_2, .int .i64 x151007_2, .int .i64 x151008_2, .int .i64 (wrap64 ((rd x4_1 (ji24)) - 1))] 25 (0, 0))) := ⟨(by rw [hw]; exact (by (with_reducible repeat (first | refine blk_drewN ?_ _ | refine blk_drew ?_ | refine blk_alloc ?_ _)); refine blk_put (cs := #[.int .i64 (rd x4_1 0), .int .i64 (rd x4_1 1), .int .i64 (rd x4_1 2), .int .u64 (rd l0 1), .int .i64 x151004_2, .int .i64 x151005_2, .int .i64 x151006_2, .int .i64 x151007_2, .int .i64 x151008_2, .int .i64 0]) ?_ 9 _ rfl; (with_reducible repeat (first | refine blk_drewN ?_ _ | refine blk_drew ?_ | refine blk_alloc ?_ _)); refine blk_put (cs := #[.int .i64 (rd x4_1 0), .int .i64 (rd x4_1 1), .int .i64 (rd x4_1 2), .int .u64 (rd l0 1), .int .i64 x151004_2, .int .i64 x151005_2, .int .i64 x151006_2, .int .i64 x151007_2, .int .i64 0, .int .i64 0]) ?_ 8 _ rfl; (with_reducible repeat (first | refine blk_drewN ?_ _ | refine blk_drew ?_ | refine blk_alloc ?_ _)); refine blk_put (cs := #[.int .i64 (rd x4_1 0), .int .i64 (rd x4_1 1), .int .i64 (rd x4_1 2), .int .u64 (rd l0 1), .int .i64 x151004_2, .int .i64 x151005_2, .int .i64 x151006_2, .int .i64 0, .int .i64 0, .int .i64 0]) ?_ 7 _ rfl; (with_reducible repeat (first | refine blk_drewN ?_ _ | refine blk_drew ?_ | refine blk_alloc ?_ _)); refine blk_put (cs := #[.int .i64 (rd x4_1 0), .int .i64 (rd x4_1 1), .int .i64 (rd x4_1 2), .int .u64 (rd l0 1), .int .i64 x151004_2, .int .i64 x151005_2, .int .i64 0, .int .i64 0, .int .i64 0, .int .i64 0]) ?_ 6 _ rfl; (with_reducible repeat (first | refine blk_drewN ?_ _ | refine blk_drew ?_ | refine blk_alloc ?_ _)); refine blk_put (cs := #[.int .i64 (rd x4_1 0), .int .i64 (rd x4_1 1), .int .i64 (rd x4_1 2), .int .u64 (rd l0 1), .int .i64 x151004_2, .int .i64 0, .int .i64 0, .int .i64 0, .int .i64 0, .int .i64 0]) ?_ 5 _ rfl; (with_reducible repeat (first | refine blk_drewN ?_ _ | refine blk_drew ?_ | refine blk_alloc ?_ _)); refine blk_put (cs := #[.int .i64 (rd x4_1 0), .int .i64 (rd x4_1 1), .int .i64 (rd x4_1 2), .int .u64 (rd l0 1), .int .i64 0, .int .i64 0, .int .i64 0, .int .i64 0, .int .i64 0, .int .i64 0]) ?_ 4 _ rfl; (with_reducible repeat (first | refine blk_drewN ?_ _ | refine blk_drew ?_ | refine blk_alloc ?_ _)); refine blk_put (cs := #[.int .i64 (rd x4_1 0), .int .i64 (rd x4_1 1), .int .i64 (rd x4_1 2), .int .u64 0, .int .i64 0, .int .i64 0, .int .i64 0, .int .i64 0, .int .i64 0, .int .i64 0]) ?_ 3 _ rfl; (with_reducible repeat (first | refine blk_drewN ?_ _ | refine blk_drew ?_ | refine blk_alloc ?_ _)); refine blk_put (cs := #[.int .i64 (rd x4_1 0), .int .i64 (rd x4_1 1), .int .i64 0, .int .u64 0, .int .i64 0, .int .i64 0, .int .i64 0, .int .i64 0, .int .i64 0, .int .i64 0]) ?_ 2 _ rfl; (with_reducible repeat (first | refine blk_drewN ?_ _ | refine blk_drew ?_ | refine blk_alloc ?_ _)); refine blk_put (cs := #[.int .i64 (rd x4_1 0), .int .i64 0, .int .i64 0, .int .u64 0, .int .i64 0, .int .i64 0, .int .i64 0, .int .i64 0, .int .i64 0, .int .i64 0]) ?_ 1 _ rfl; (with_reducible repeat (first | refine blk_drewN ?_ _ | refine blk_drew ?_ | refine blk_alloc ?_ _)); refine blk_put (cs := #[.int .i64 0, .int .i64 0, .int .i64 0, .int .u64 0, .int .i64 0, .int .i64 0, .int .i64 0, .int .i64 0, .int .i64 0, .int .i64 0]) ?_ 0 _ rfl; (with_reducible repeat (first | refine blk_drewN ?_ _ | refine blk_drew ?_ | refine blk_alloc ?_ _)); exact BK133.out))⟩; have n3_ : Aside0 (w69.heap[gb150]? = some (.cells #[.int .i64 (rd x4_1 0), .int .i64 (rd x4_1 1), .int .i64 (rd x4_1 2), .int .u64 (rd l0 1), .int .i64 x151004_2, .int .i64 x151005_2, .int .i64 x151006_2, .int .i64 x151007_2, .int .i64 x151008_2, .int .i64 (wrap64 ((rd x4_1 (ji24)) - 1))] 25 (0, 0))) := ⟨(by rw [hw]; exact (by (with_reducible repeat (first | refine blk_drewN ?_ _ | refine blk_drew ?_ | refine blk_alloc ?_ _)); refine blk_far ?_ NB150_133.out _; (with_reducible repeat (first | refine blk_drewN ?_ _ | refine blk_drew ?_ | refine blk_alloc ?_ _)); refine blk_far ?_ NB150_133.out _; (with_reducible repeat (first | refine blk_drewN ?_ _ | refine blk_drew ?_ | refine blk_alloc ?_ _)); refine blk_far ?_ NB150_133.out _; (with_reducible repeat (first | refine blk_drewN ?_ _ | refine blk_drew ?_ | refine blk_alloc ?_ _)); refine blk_far ?_ NB150_133.out _; (with_reducible repeat (first | refine blk_drewN ?_ _ | refine blk_drew ?_ | refine blk_alloc ?_ _)); refine blk_far ?_ NB150_133.out _; (with_reducible repeat (first | refine blk_drewN ?_ _ | refine blk_drew ?_ | refine blk_alloc ?_ _)); refine blk_far ?_ NB150_133.out _; (with_reducible repeat (first | refine blk_drewN ?_ _ | refine blk_drew ?_ | refine blk_alloc ?_ _)); refine blk_far ?_ NB150_133.out _; (with_reducible repeat (first | refine blk_drewN ?_ _ | refine blk_drew ?_ | refine blk_alloc ?_ _)); refine blk_far ?_ NB150_133.out _; (with_reducible repeat (first | refine blk_drewN ?_ _ | refine blk_drew ?_ | refine blk_alloc ?_ _)); refine blk_far ?_ NB150_133.out _; (with_reducible repeat (first | refine blk_drewN ?_ _ | refine blk_drew ?_ | refine blk_alloc ?_ _)); refine blk_far ?_ NB150_133.out _; (with_reducible repeat (first | refine blk_drewN ?_ _ | refine blk_drew ?_ | refine blk_alloc ?_ _)); exact BK150.out))⟩; have n4_ : Aside0 (Below w.heap.size w w69) := ⟨(by rw [hw]; exact (by repeat (first | (with_reducible first | exact HB.out | apply below_alloc | apply pw_below_drewN | apply below_drew1 | refine below_set ?_ GE133.out | refine below_set ?_ GE150.out) | exact HB.out)))⟩; clear hw; clear HO_4; clear HO154; clear BK133; clear BK150; clear HB; have HO_4 := n0_; have HO154 := n1_; have BK133 := n2_; have BK150 := n3_; have HB := n4_; clear n0_ n1_ n2_ n3_ n4_))
                                refine bodyPost_ret (results_ct rfl _ _ gb133 25 #[.int .i64 (rd x4_1 0), .int .i64 (rd x4_1 1), .int .i64 (rd x4_1 2), .int .u64 (rd l0 1), .int .i64 x151004_2, .int .i64 x151005_2, .int .i64 x151006_2, .int .i64 x151007_2, .int .i64 x151008_2, .int .i64 (wrap64 ((rd x4_1 (ji24)) - 1))] (0, 0) _ rfl (by (with_reducible repeat (first | refine blk_drewN ?_ _ | refine blk_drew ?_ | refine blk_alloc ?_ _)); exact BK133.out) Try.underlying25 rfl (by kernel_rfl)) rfl ?_
                                exact ⟨by first | rfl | (simp [errW_none, errW_some] <;> rfl) | (simp only [← hji24]; first | rfl | (simp [errW_none, errW_some] <;> rfl)) | (simp [*, errW_none, errW_some] <;> rfl), by repeat (first | (with_reducible first | exact HB.out | apply below_alloc | apply pw_below_drewN | apply below_drew1 | refine below_set ?_ GE133.out | refine below_set ?_ GE150.out) | exact HB.out)⟩
                              · replace c62 := Bool.eq_false_iff.mpr c62
                                subst c62
                                have H1 : (some (0, 0, 0, 0, 0, 0, 0, 0, 0, 0, 15)) = some (r1, r2, r3, r4, r5, r6, r7, r8, r9, r10, r11) := by rw [if_neg (show ¬ (false = true) by decide)] at H; exact H
                                clear H
                                have H := H1
                                clear H1
                                simp only [Option.some.injEq, Prod.mk.injEq] at H
                                obtain ⟨rfl, rfl, rfl, rfl, rfl, rfl, rfl, rfl, rfl, rfl, rfl⟩ := H
                                have hnb70 := NB150_133.out
                                have hnc70 := NB133_150.out
                                have hcz71_0 : wr.cell? ⟨gb150, 0, none⟩ = some (.int .i64 (rd x4_1 0)) := (blk_cell BK150.out 0).trans rfl
                                have hcz71_1 : wr.cell? ⟨gb150, 1, none⟩ = some (.int .i64 (rd x4_1 1)) := (blk_cell BK150.out 1).trans rfl
                                have hcz71_2 : wr.cell? ⟨gb150, 2, none⟩ = some (.int .i64 (rd x4_1 2)) := (blk_cell BK150.out 2).trans rfl
                                have hcz71_3 : wr.cell? ⟨gb150, 3, none⟩ = some (.int .u64 (rd l0 1)) := (blk_cell BK150.out 3).trans rfl
                                have hcz71_4 : wr.cell? ⟨gb150, 4, none⟩ = some (.int .i64 x151004_2) := (blk_cell BK150.out 4).trans rfl
                                have hcz71_5 : wr.cell? ⟨gb150, 5, none⟩ = some (.int .i64 x151005_2) := (blk_cell BK150.out 5).trans rfl
                                have hcz71_6 : wr.cell? ⟨gb150, 6, none⟩ = some (.int .i64 x151006_2) := (blk_cell BK150.out 6).trans rfl
                                have hcz71_7 : wr.cell? ⟨gb150, 7, none⟩ = some (.int .i64 x151007_2) := (blk_cell BK150.out 7).trans rfl
                                have hcz71_8 : wr.cell? ⟨gb150, 8, none⟩ = some (.int .i64 x151008_2) := (blk_cell BK150.out 8).trans rfl
                                have hcz71_9 : wr.cell? ⟨gb150, 9, none⟩ = some (.int .i64 (wrap64 ((rd x4_1 (ji24)) - 1))) := (blk_cell BK150.out 9).trans rfl
                                have hfz71_0 := blk_frozen BK150.out 0
                                have hfz71_1 := blk_frozen BK150.out 1
                                have hfz71_2 := blk_frozen BK150.out 2
                                have hfz71_3 := blk_frozen BK150.out 3
                                have hfz71_4 := blk_frozen BK150.out 4
                                have hfz71_5 := blk_frozen BK150.out 5
                                have hfz71_6 := blk_frozen BK150.out 6
                                have hfz71_7 := blk_frozen BK150.out 7
                                have hfz71_8 := blk_frozen BK150.out 8
                                have hfz71_9 := blk_frozen BK150.out 9
                                go_wp2_with (first | ((with_reducible refine gate_callee (f := 9) rfl ?_); refine goesL_ (some 77) rfl rfl Try.func9 (by kernel_rfl) rfl #[.agg #[.int .i64 (rd x4_1 0), .int .i64 (rd x4_1 1), .int .i64 (rd x4_1 2), .int .u64 (rd l0 1), .int .i64 x151004_2, .int .i64 x151005_2, .int .i64 x151006_2, .int .i64 x151007_2, .int .i64 x151008_2, .int .i64 (wrap64 ((rd x4_1 (ji24)) - 1))]] rfl (by (try simp only [List.map_toArray, List.map_cons, List.map_nil]); first | done | (simp only [hji24]; rfl) | rfl | (simp only [List.length_drop, List.length_take]; rfl)) ?_; (with_reducible refine (cards_Write.calls k2 (rd x4_1 0) (rd x4_1 1) (rd x4_1 2) (rd l0 1) x151004_2 x151005_2 x151006_2 x151007_2 x151008_2 (wrap64 ((rd x4_1 (ji24)) - 1)) t152 t155 _ A59.out).mono ?_); rintro e w72 ⟨v153, rfl, ho0, hb⟩; refine ⟨_, rfl, ?_⟩; have n0_ := Aside0.mk (Kd.R_below (by (with_reducible repeat (first | apply Kd.R_alloc | apply Kd.R_drewN | apply Kd.R_drew)); exact HO_4.out) hb); have n1_ := Aside0.mk (Kd.R_lower ho0 (below_size (by repeat (first | (with_reducible first | exact HB.out | apply below_alloc | apply pw_below_drewN | apply below_drew1 | refine below_set ?_ GE133.out | refine below_set ?_ GE150.out) | exact HB.out)))); have n2_ := Aside0.mk (blk_below (g := gb133) (o := .cells #[.int .i64 0, .int .i64 0, .int .i64 0, .int .u64 0, .int .i64 0, .int .i64 0, .int .i64 0, .int .i64 0, .int .i64 0, .int .i64 0] 25 (0, 0)) (by (with_reducible repeat (first | refine blk_drewN ?_ _ | refine blk_drew ?_ | refine blk_alloc ?_ _)); exact BK133.out) hb); have n3_ := Aside0.mk (blk_below (g := gb150) (o := .cells #[.int .i64 (rd x4_1 0), .int .i64 (rd x4_1 1), .int .i64 (rd x4_1 2), .int .u64 (rd l0 1), .int .i64 x151004_2, .int .i64 x151005_2, .int .i64 x151006_2, .int .i64 x151007_2, .int .i64 x151008_2, .int .i64 (wrap64 ((rd x4_1 (ji24)) - 1))] 25 (0, 0)) (by (with_reducible repeat (first | refine blk_drewN ?_ _ | refine blk_drew ?_ | refine blk_alloc ?_ _)); exact BK150.out) hb); have n4_ := Aside0.mk (below_step (by repeat (first | (with_reducible first | exact HB.out | apply below_alloc | apply pw_below_drewN | apply below_drew1 | refine below_set ?_ GE133.out | refine below_set ?_ GE150.out) | exact HB.out)) hb); clear HO_4; clear BK133; clear BK150; clear HB; have HO_4 := n0_; have HO154 := n1_; have BK133 := n2_; have BK150 := n3_; have HB := n4_; clear n0_ n1_ n2_ n3_ n4_; (try clear hb); (try clear hb2); (try clear hk); (try clear hi); (try clear ho0); obtain ⟨Ao73, co73, eo73⟩ := Kd.R_slice HO154.out; subst eo73) | (go_at_call 27; (with_reducible refine (slices_Equal_uint64_uint64.calls k2 _ _ t152 _ _ l0 false _ ?side1 ?side2 ?side3 ?side4 A61.out).mono ?_); (case side1 => repeat (first | exact (Kd.R_reads' HO154.out).2.2 | (with_reducible refine Kd.C_alloc ?_ _) | (with_reducible refine Kd.C_drewN ?_ _) | (with_reducible refine Kd.C_drew ?_))); (case side2 => exact (Kd.R_reads' HO154.out).2.1); (case side3 => repeat (first | exact (Kd.C_below HR0.out HB.out) | (with_reducible refine Kd.C_alloc ?_ _) | (with_reducible refine Kd.C_drewN ?_ _) | (with_reducible refine Kd.C_drew ?_))); (case side4 => exact HC0.out); rintro e w' ⟨rfl, ⟨nd, rfl⟩⟩; (try (rw [drewN_self w72]; generalize hq_ : World.drewN w72 _ = w72; have n0_ : Aside0 (Kd.R (Kd.int .u64) 22 w72 w.heap.size (fun _ => True) (.slice Ao73 t152.length co73) t152) := ⟨by rw [← hq_]; exact (by (with_reducible repeat (first | apply Kd.R_alloc | apply Kd.R_drewN | apply Kd.R_drew)); exact HO154.out)⟩; have n1_ : Aside0 (Kd.R (Kd.int .i64) 3 w72 w.heap.size (fun _ => True) (.slice (some ad145) x4_1.length co28) x4_1) := ⟨by rw [← hq_]; exact (by (with_reducible repeat (first | apply Kd.R_alloc | apply Kd.R_drewN | apply Kd.R_drew)); exact HO_4.out)⟩; have n2_ : Aside0 (w72.heap[gb133]? = some (.cells #[.int .i64 0, .int .i64 0, .int .i64 0, .int .u64 0, .int .i64 0, .int .i64 0, .int .i64 0, .int .i64 0, .int .i64 0, .int .i64 0] 25 (0, 0))) := ⟨by rw [← hq_]; exact (by (with_reducible repeat (first | refine blk_drewN ?_ _ | refine blk_drew ?_ | refine blk_alloc ?_ _)); exact BK133.out)⟩; have n3_ : Aside0 (w72.heap[gb150]? = some (.cells #[.int .i64 (rd x4_1 0), .int .i64 (rd x4_1 1), .int .i64 (rd x4_1 2), .int .u64 (rd l0 1), .int .i64 x151004_2, .int .i64 x151005_2, .int .i64 x151006_2, .int .i64 x151007_2, .int .i64 x151008_2, .int .i64 (wrap64 ((rd x4_1 (ji24)) - 1))] 25 (0, 0))) := ⟨by rw [← hq_]; exact (by (with_reducible repeat (first | refine blk_drewN ?_ _ | refine blk_drew ?_ | refine blk_alloc ?_ _)); exact BK150.out)⟩; have n4_ : Aside0 (Below w.heap.size w w72) := ⟨by rw [← hq_]; exact (by repeat (first | (with_reducible first | exact HB.out | apply below_alloc | apply pw_below_drewN | apply below_drew1 | refine below_set ?_ GE133.out | refine below_set ?_ GE150.out) | exact HB.out))⟩; clear HO154 HO_4 BK133 BK150 HB hq_; have HO154 := n0_; have HO_4 := n1_; have BK133 := n2_; have BK150 := n3_; have HB := n4_; clear n0_ n1_ n2_ n3_ n4_)); have hcz74_0 : w72.cell? ⟨gb133, 0, none⟩ = some (.int .i64 0) := (blk_cell BK133.out 0).trans rfl; have hcz74_1 : w72.cell? ⟨gb133, 1, none⟩ = some (.int .i64 0) := (blk_cell BK133.out 1).trans rfl; have hcz74_2 : w72.cell? ⟨gb133, 2, none⟩ = some (.int .i64 0) := (blk_cell BK133.out 2).trans rfl; have hcz74_3 : w72.cell? ⟨gb133, 3, none⟩ = some (.int .u64 0) := (blk_cell BK133.out 3).trans rfl; have hcz74_4 : w72.cell? ⟨gb133, 4, none⟩ = some (.int .i64 0) := (blk_cell BK133.out 4).trans rfl; have hcz74_5 : w72.cell? ⟨gb133, 5, none⟩ = some (.int .i64 0) := (blk_cell BK133.out 5).trans rfl; have hcz74_6 : w72.cell? ⟨gb133, 6, none⟩ = some (.int .i64 0) := (blk_cell BK133.out 6).trans rfl; have hcz74_7 : w72.cell? ⟨gb133, 7, none⟩ = some (.int .i64 0) := (blk_cell BK133.out 7).trans rfl; have hcz74_8 : w72.cell? ⟨gb133, 8, none⟩ = some (.int .i64 0) := (blk_cell BK133.out 8).trans rfl; have hcz74_9 : w72.cell? ⟨gb133, 9, none⟩ = some (.int .i64 0) := (blk_cell BK133.out 9).trans rfl; have hfz74_0 := blk_frozen BK133.out 0; have hfz74_1 := blk_frozen BK133.out 1; have hfz74_2 := blk_frozen BK133.out 2; have hfz74_3 := blk_frozen BK133.out 3; have hfz74_4 := blk_frozen BK133.out 4; have hfz74_5 := blk_frozen BK133.out 5; have hfz74_6 := blk_frozen BK133.out 6; have hfz74_7 := blk_frozen BK133.out 7; have hfz74_8 := blk_frozen BK133.out 8; have hfz74_9 := blk_frozen BK133.out 9) | ((with_reducible refine gate_store (t := 25) (p := 2) rfl ?_); refine store_event (t := 25) (p := 2) (v := ?vo_w75) (w1 := ((((((((((w72.setCell ⟨gb133, 0, none⟩ (.int .i64 0)).setCell ⟨gb133, 1, none⟩ (.int .i64 0)).setCell ⟨gb133, 2, none⟩ (.int .i64 0)).setCell ⟨gb133, 3, none⟩ (.int .u64 0)).setCell ⟨gb133, 4, none⟩ (.int .i64 0)).setCell ⟨gb133, 5, none⟩ (.int .i64 0)).setCell ⟨gb133, 6, none⟩ (.int .i64 0)).setCell ⟨gb133, 7, none⟩ (.int .i64 0)).setCell ⟨gb133, 8, none⟩ (.int .i64 0)).setCell ⟨gb133, 9, none⟩ (.int .i64 0))) ?hg ?ho ?hn ?hr ?_; (case ho => rfl); (case hg => rfl); (case hn => rfl); (case hr => exact pr_store_exec rfl rfl rfl (run_store_run (P := Try.prog) (o := 0) (cur := #[.int .i64 0, .int .i64 0, .int .i64 0, .int .u64 0, .int .i64 0, .int .i64 0, .int .i64 0, .int .i64 0, .int .i64 0, .int .i64 0]) 25 (.agg #[.int .i64 0, .int .i64 0, .int .i64 0, .int .u64 0, .int .i64 0, .int .i64 0, .int .i64 0, .int .i64 0, .int .i64 0, .int .i64 0]) [.int .i64 0, .int .i64 0, .int .i64 0, .int .u64 0, .int .i64 0, .int .i64 0, .int .i64 0, .int .i64 0, .int .i64 0, .int .i64 0] (show _ = some (Obj.cells #[.int .i64 0, .int .i64 0, .int .i64 0, .int .u64 0, .int .i64 0, .int .i64 0, .int .i64 0, .int .i64 0, .int .i64 0, .int .i64 0] 25 (0, 0)) from (by (with_reducible repeat (first | refine blk_drewN ?_ _ | refine blk_drew ?_ | refine blk_alloc ?_ _)); exact BK133.out)) rfl (by kernel_rfl) (show 10 ≤ 10 by decide) (by intro q_ hq_; simp only [List.mem_cons, List.not_mem_nil, or_false] at hq_; rcases hq_ with rfl | rfl | rfl | rfl | rfl | rfl | rfl | rfl | rfl | rfl <;> rfl))); intro w75 hw; have n0_ : Aside0 (Kd.R (Kd.int .i64) 3 w75 w.heap.size (fun _ => True) (.slice (some ad145) x4_1.length co28) x4_1) := ⟨(by rw [hw]; exact (by (with_reducible repeat (first | apply Kd.R_alloc | apply Kd.R_drewN | apply Kd.R_drew)); exact Kd.R_mono (Kd.R_far (p := ⟨gb133, 9, none⟩) (Kd.R_far (p := ⟨gb133, 8, none⟩) (Kd.R_far (p := ⟨gb133, 7, none⟩) (Kd.R_far (p := ⟨gb133, 6, none⟩) (Kd.R_far (p := ⟨gb133, 5, none⟩) (Kd.R_far (p := ⟨gb133, 4, none⟩) (Kd.R_far (p := ⟨gb133, 3, none⟩) (Kd.R_far (p := ⟨gb133, 2, none⟩) (Kd.R_far (p := ⟨gb133, 1, none⟩) (Kd.R_far (p := ⟨gb133, 0, none⟩) (Kd.R_types HO_4.out BK133.out (by decide)) (fun _ hk => hk.2) (.int .i64 0)) (fun _ hk => hk.2) (.int .i64 0)) (fun _ hk => hk.2) (.int .i64 0)) (fun _ hk => hk.2) (.int .u64 0)) (fun _ hk => hk.2) (.int .i64 0)) (fun _ hk => hk.2) (.int .i64 0)) (fun _ hk => hk.2) (.int .i64 0)) (fun _ hk => hk.2) (.int .i64 0)) (fun _ hk => hk.2) (.int .i64 0)) (fun _ hk => hk.2) (.int .i64 0)) (fun _ hk => trivial)))⟩; have n1_ : Aside0 (Kd.R (Kd.int .u64) 22 w75 w.heap.size (fun _ => True) (.slice Ao73 t152.length co73) t152) := ⟨(by rw [hw]; exact (by (with_reducible repeat (first | apply Kd.R_alloc | apply Kd.R_drewN | apply Kd.R_drew)); exact Kd.R_mono (Kd.R_far (p := ⟨gb133, 9, none⟩) (Kd.R_far (p := ⟨gb133, 8, none⟩) (Kd.R_far (p := ⟨gb133, 7, none⟩) (Kd.R_far (p := ⟨gb133, 6, none⟩) (Kd.R_far (p := ⟨gb133, 5, none⟩) (Kd.R_far (p := ⟨gb133, 4, none⟩) (Kd.R_far (p := ⟨gb133, 3, none⟩) (Kd.R_far (p := ⟨gb133, 2, none⟩) (Kd.R_far (p := ⟨gb133, 1, none⟩) (Kd.R_far (p := ⟨gb133, 0, none⟩) (Kd.R_types HO154.out BK133.out (by decide)) (fun _ hk => hk.2) (.int .i64 0)) (fun _ hk => hk.2) (.int .i64 0)) (fun _ hk => hk.2) (.int .i64 0)) (fun _ hk => hk.2) (.int .u64 0)) (fun _ hk => hk.2) (.int .i64 0)) (fun _ hk => hk.2) (.int .i64 0)) (fun _ hk => hk.2) (.int .i64 0)) (fun _ hk => hk.2) (.int .i64 0)) (fun _ hk => hk.2) (.int .i64 0)) (fun _ hk => hk.2) (.int .i64 0)) (fun _ hk => trivial)))⟩; have n2_ : Aside0 (w75.heap[gb133]? = some (.cells #[.int .i64 0, .int .i64 0, .int .i64 0, .int .u64 0, .int .i64 0, .int .i64 0, .int .i64 0, .int .i64 0, .int .i64 0, .int .i64 0] 25 (0, 0))) := ⟨(by rw [hw]; exact (by (with_reducible repeat (first | refine blk_drewN ?_ _ | refine blk_drew ?_ | refine blk_alloc ?_ _)); refine blk_put (cs := #[.int .i64 0, .int .i64 0, .int .i64 0, .int .u64 0, .int .i64 0, .int .i64 0, .int .i64 0, .int .i64 0, .int .i64 0, .int .i64 0]) ?_ 9 _ rfl; (with_reducible repeat (first | refine blk_drewN ?_ _ | refine blk_drew ?_ | refine blk_alloc ?_ _)); refine blk_put (cs := #[.int .i64 0, .int .i64 0, .int .i64 0, .int .u64 0, .int .i64 0, .int .i64 0, .int .i64 0, .int .i64 0, .int .i64 0, .int .i64 0]) ?_ 8 _ rfl; (with_reducible repeat (first | refine blk_drewN ?_ _ | refine blk_drew ?_ | refine blk_alloc ?_ _)); refine blk_put (cs := #[.int .i64 0, .int .i64 0, .int .i64 0, .int .u64 0, .int .i64 0, .int .i64 0, .int .i64 0, .int .i64 0, .int .i64 0, .int .i64 0]) ?_ 7 _ rfl; (with_reducible repeat (first | refine blk_drewN ?_ _ | refine blk_drew ?_ | refine blk_alloc ?_ _)); refine blk_put (cs := #[.int .i64 0, .int .i64 0, .int .i64 0, .int .u64 0, .int .i64 0, .int .i64 0, .int .i64 0, .int .i64 0, .int .i64 0, .int .i64 0]) ?_ 6 _ rfl; (with_reducible repeat (first | refine blk_drewN ?_ _ | refine blk_drew ?_ | refine blk_alloc ?_ _)); refine blk_put (cs := #[.int .i64 0, .int .i64 0, .int .i64 0, .int .u64 0, .int .i64 0, .int .i64 0, .int .i64 0, .int .i64 0, .int .i64 0, .int .i64 0]) ?_ 5 _ rfl; (with_reducible repeat (first | refine blk_drewN ?_ _ | refine blk_drew ?_ | refine blk_alloc ?_ _)); refine blk_put (cs := #[.int .i64 0, .int .i64 0, .int .i64 0, .int .u64 0, .int .i64 0, .int .i64 0, .int .i64 0, .int .i64 0, .int .i64 0, .int .i64 0]) ?_ 4 _ rfl; (with_reducible repeat (first | refine blk_drewN ?_ _ | refine blk_drew ?_ | refine blk_alloc ?_ _)); refine blk_put (cs := #[.int .i64 0, .int .i64 0, .int .i64 0, .int .u64 0, .int .i64 0, .int .i64 0, .int .i64 0, .int .i64 0, .int .i64 0, .int .i64 0]) ?_ 3 _ rfl; (with_reducible repeat (first | refine blk_drewN ?_ _ | refine blk_drew ?_ | refine blk_alloc ?_ _)); refine blk_put (cs := #[.int .i64 0, .int .i64 0, .int .i64 0, .int .u64 0, .int .i64 0, .int .i64 0, .int .i64 0, .int .i64 0, .int .i64 0, .int .i64 0]) ?_ 2 _ rfl; (with_reducible repeat (first | refine blk_drewN ?_ _ | refine blk_drew ?_ | refine blk_alloc ?_ _)); refine blk_put (cs := #[.int .i64 0, .int .i64 0, .int .i64 0, .int .u64 0, .int .i64 0, .int .i64 0, .int .i64 0, .int .i64 0, .int .i64 0, .int .i64 0]) ?_ 1 _ rfl; (with_reducible repeat (first | refine blk_drewN ?_ _ | refine blk_drew ?_ | refine blk_alloc ?_ _)); refine blk_put (cs := #[.int .i64 0, .int .i64 0, .int .i64 0, .int .u64 0, .int .i64 0, .int .i64 0, .int .i64 0, .int .i64 0, .int .i64 0, .int .i64 0]) ?_ 0 _ rfl; (with_reducible repeat (first | refine blk_drewN ?_ _ | refine blk_drew ?_ | refine blk_alloc ?_ _)); exact BK133.out))⟩; have n3_ : Aside0 (w75.heap[gb150]? = some (.cells #[.int .i64 (rd x4_1 0), .int .i64 (rd x4_1 1), .int .i64 (rd x4_1 2), .int .u64 (rd l0 1), .int .i64 x151004_2, .int .i64 x151005_2, .int .i64 x151006_2, .int .i64 x151007_2, .int .i64 x151008_2, .int .i64 (wrap64 ((rd x4_1 (ji24)) - 1))] 25 (0, 0))) := ⟨(by rw [hw]; exact (by (with_reducible repeat (first | refine blk_drewN ?_ _ | refine blk_drew ?_ | refine blk_alloc ?_ _)); refine blk_far ?_ NB150_133.out _; (with_reducible repeat (first | refine blk_drewN ?_ _ | refine blk_drew ?_ | refine blk_alloc ?_ _)); refine blk_far ?_ NB150_133.out _; (with_reducible repeat (first | refine blk_drewN ?_ _ | refine blk_drew ?_ | refine blk_alloc ?_ _)); refine blk_far ?_ NB150_133.out _; (with_reducible repeat (first | refine blk_drewN ?_ _ | refine blk_drew ?_ | refine blk_alloc ?_ _)); refine blk_far ?_ NB150_133.out _; (with_reducible repeat (first | refine blk_drewN ?_ _ | refine blk_drew ?_ | refine blk_alloc ?_ _)); refine blk_far ?_ NB150_133.out _; (with_reducible repeat (first | refine blk_drewN ?_ _ | refine blk_drew ?_ | refine blk_alloc ?_ _)); refine blk_far ?_ NB150_133.out _; (with_reducible repeat (first | refine blk_drewN ?_ _ | refine blk_drew ?_ | refine blk_alloc ?_ _)); refine blk_far ?_ NB150_133.out _; (with_reducible repeat (first | refine blk_drewN ?_ _ | refine blk_drew ?_ | refine blk_alloc ?_ _)); refine blk_far ?_ NB150_133.out _; (with_reducible repeat (first | refine blk_drewN ?_ _ | refine blk_drew ?_ | refine blk_alloc ?_ _)); refine blk_far ?_ NB150_133.out _; (with_reducible repeat (first | refine blk_drewN ?_ _ | refine blk_drew ?_ | refine blk_alloc ?_ _)); refine blk_far ?_ NB150_133.out _; (with_reducible repeat (first | refine blk_drewN ?_ _ | refine blk_drew ?_ | refine blk_alloc ?_ _)); exact BK150.out))⟩; have n4_ : Aside0 (Below w.heap.size w w75) := ⟨(by rw [hw]; exact (by repeat (first | (with_reducible first | exact HB.out | apply below_alloc | apply pw_below_drewN | apply below_drew1 | refine below_set ?_ GE133.out | refine below_set ?_ GE150.out) | exact HB.out)))⟩; clear hw; clear HO_4; clear HO154; clear BK133; clear BK150; clear HB; have HO_4 := n0_; have HO154 := n1_; have BK133 := n2_; have BK150 := n3_; have HB := n4_; clear n0_ n1_ n2_ n3_ n4_))
                                refine bodyPost_ret (results_ct rfl _ _ gb133 25 #[.int .i64 0, .int .i64 0, .int .i64 0, .int .u64 0, .int .i64 0, .int .i64 0, .int .i64 0, .int .i64 0, .int .i64 0, .int .i64 0] (0, 0) _ rfl (by (with_reducible repeat (first | refine blk_drewN ?_ _ | refine blk_drew ?_ | refine blk_alloc ?_ _)); exact BK133.out) Try.underlying25 rfl (by kernel_rfl)) rfl ?_
                                exact ⟨by first | rfl | (simp [errW_none, errW_some] <;> rfl) | (simp only [← hji24]; first | rfl | (simp [errW_none, errW_some] <;> rfl)) | (simp [*, errW_none, errW_some] <;> rfl), by repeat (first | (with_reducible first | exact HB.out | apply below_alloc | apply pw_below_drewN | apply below_drew1 | refine below_set ?_ GE133.out | refine below_set ?_ GE150.out) | exact HB.out)⟩
                            · rw [if_neg c60] at H
                              have c60b0 : (t155 == 0) = false := beq_eq_false_iff_ne.mpr c60
                              have c60b1 : (t155 != 0) = true := bne_iff_ne.mpr c60
                              simp only [Option.some.injEq, Prod.mk.injEq] at H
                              obtain ⟨rfl, rfl, rfl, rfl, rfl, rfl, rfl, rfl, rfl, rfl, rfl⟩ := H
                              have hnb76 := NB150_133.out
                              have hnc76 := NB133_150.out
                              have hcz77_0 : wr.cell? ⟨gb150, 0, none⟩ = some (.int .i64 (rd x4_1 0)) := (blk_cell BK150.out 0).trans rfl
                              have hcz77_1 : wr.cell? ⟨gb150, 1, none⟩ = some (.int .i64 (rd x4_1 1)) := (blk_cell BK150.out 1).trans rfl
                              have hcz77_2 : wr.cell? ⟨gb150, 2, none⟩ = some (.int .i64 (rd x4_1 2)) := (blk_cell BK150.out 2).trans rfl
                              have hcz77_3 : wr.cell? ⟨gb150, 3, none⟩ = some (.int .u64 (rd l0 1)) := (blk_cell BK150.out 3).trans rfl
                              have hcz77_4 : wr.cell? ⟨gb150, 4, none⟩ = some (.int .i64 x151004_2) := (blk_cell BK150.out 4).trans rfl
                              have hcz77_5 : wr.cell? ⟨gb150, 5, none⟩ = some (.int .i64 x151005_2) := (blk_cell BK150.out 5).trans rfl
                              have hcz77_6 : wr.cell? ⟨gb150, 6, none⟩ = some (.int .i64 x151006_2) := (blk_cell BK150.out 6).trans rfl
                              have hcz77_7 : wr.cell? ⟨gb150, 7, none⟩ = some (.int .i64 x151007_2) := (blk_cell BK150.out 7).trans rfl
                              have hcz77_8 : wr.cell? ⟨gb150, 8, none⟩ = some (.int .i64 x151008_2) := (blk_cell BK150.out 8).trans rfl
                              have hcz77_9 : wr.cell? ⟨gb150, 9, none⟩ = some (.int .i64 (wrap64 ((rd x4_1 (ji24)) - 1))) := (blk_cell BK150.out 9).trans rfl
                              have hfz77_0 := blk_frozen BK150.out 0
                              have hfz77_1 := blk_frozen BK150.out 1
                              have hfz77_2 := blk_frozen BK150.out 2
                              have hfz77_3 := blk_frozen BK150.out 3
                              have hfz77_4 := blk_frozen BK150.out 4
                              have hfz77_5 := blk_frozen BK150.out 5
                              have hfz77_6 := blk_frozen BK150.out 6
                              have hfz77_7 := blk_frozen BK150.out 7
                              have hfz77_8 := blk_frozen BK150.out 8
                              have hfz77_9 := blk_frozen BK150.out 9
                              go_wp2_with (first | ((with_reducible refine gate_callee (f := 9) rfl ?_); refine goesL_ (some 77) rfl rfl Try.func9 (by kernel_rfl) rfl #[.agg #[.int .i64 (rd x4_1 0), .int .i64 (rd x4_1 1), .int .i64 (rd x4_1 2), .int .u64 (rd l0 1), .int .i64 x151004_2, .int .i64 x151005_2, .int .i64 x151006_2, .int .i64 x151007_2, .int .i64 x151008_2, .int .i64 (wrap64 ((rd x4_1 (ji24)) - 1))]] rfl (by (try simp only [List.map_toArray, List.map_cons, List.map_nil]); first | done | (simp only [hji24]; rfl) | rfl | (simp only [List.length_drop, List.length_take]; rfl)) ?_; (with_reducible refine (cards_Write.calls k2 (rd x4_1 0) (rd x4_1 1) (rd x4_1 2) (rd l0 1) x151004_2 x151005_2 x151006_2 x151007_2 x151008_2 (wrap64 ((rd x4_1 (ji24)) - 1)) t152 t155 _ A59.out).mono ?_); rintro e w78 ⟨v153, rfl, ho0, hb⟩; refine ⟨_, rfl, ?_⟩; have n0_ := Aside0.mk (Kd.R_below (by (with_reducible repeat (first | apply Kd.R_alloc | apply Kd.R_drewN | apply Kd.R_drew)); exact HO_4.out) hb); have n1_ := Aside0.mk (Kd.R_lower ho0 (below_size (by repeat (first | (with_reducible first | exact HB.out | apply below_alloc | apply pw_below_drewN | apply below_drew1 | refine below_set ?_ GE133.out | refine below_set ?_ GE150.out) | exact HB.out)))); have n2_ := Aside0.mk (blk_below (g := gb133) (o := .cells #[.int .i64 0, .int .i64 0, .int .i64 0, .int .u64 0, .int .i64 0, .int .i64 0, .int .i64 0, .int .i64 0, .int .i64 0, .int .i64 0] 25 (0, 0)) (by (with_reducible repeat (first | refine blk_drewN ?_ _ | refine blk_drew ?_ | refine blk_alloc ?_ _)); exact BK133.out) hb); have n3_ := Aside0.mk (blk_below (g := gb150) (o := .cells #[.int .i64 (rd x4_1 0), .int .i64 (rd x4_1 1), .int .i64 (rd x4_1 2), .int .u64 (rd l0 1), .int .i64 x151004_2, .int .i64 x151005_2, .int .i64 x151006_2, .int .i64 x151007_2, .int .i64 x151008_2, .int .i64 (wrap64 ((rd x4_1 (ji24)) - 1))] 25 (0, 0)) (by (with_reducible repeat (first | refine blk_drewN ?_ _ | refine blk_drew ?_ | refine blk_alloc ?_ _)); exact BK150.out) hb); have n4_ := Aside0.mk (below_step (by repeat (first | (with_reducible first | exact HB.out | apply below_alloc | apply pw_below_drewN | apply below_drew1 | refine below_set ?_ GE133.out | refine below_set ?_ GE150.out) | exact HB.out)) hb); clear HO_4; clear BK133; clear BK150; clear HB; have HO_4 := n0_; have HO154 := n1_; have BK133 := n2_; have BK150 := n3_; have HB := n4_; clear n0_ n1_ n2_ n3_ n4_; (try clear hb); (try clear hb2); (try clear hk); (try clear hi); (try clear ho0); have hcz79_0 : w78.cell? ⟨gb133, 0, none⟩ = some (.int .i64 0) := (blk_cell BK133.out 0).trans rfl; have hcz79_1 : w78.cell? ⟨gb133, 1, none⟩ = some (.int .i64 0) := (blk_cell BK133.out 1).trans rfl; have hcz79_2 : w78.cell? ⟨gb133, 2, none⟩ = some (.int .i64 0) := (blk_cell BK133.out 2).trans rfl; have hcz79_3 : w78.cell? ⟨gb133, 3, none⟩ = some (.int .u64 0) := (blk_cell BK133.out 3).trans rfl; have hcz79_4 : w78.cell? ⟨gb133, 4, none⟩ = some (.int .i64 0) := (blk_cell BK133.out 4).trans rfl; have hcz79_5 : w78.cell? ⟨gb133, 5, none⟩ = some (.int .i64 0) := (blk_cell BK133.out 5).trans rfl; have hcz79_6 : w78.cell? ⟨gb133, 6, none⟩ = some (.int .i64 0) := (blk_cell BK133.out 6).trans rfl; have hcz79_7 : w78.cell? ⟨gb133, 7, none⟩ = some (.int .i64 0) := (blk_cell BK133.out 7).trans rfl; have hcz79_8 : w78.cell? ⟨gb133, 8, none⟩ = some (.int .i64 0) := (blk_cell BK133.out 8).trans rfl; have hcz79_9 : w78.cell? ⟨gb133, 9, none⟩ = some (.int .i64 0) := (blk_cell BK133.out 9).trans rfl; have hfz79_0 := blk_frozen BK133.out 0; have hfz79_1 := blk_frozen BK133.out 1; have hfz79_2 := blk_frozen BK133.out 2; have hfz79_3 := blk_frozen BK133.out 3; have hfz79_4 := blk_frozen BK133.out 4; have hfz79_5 := blk_frozen BK133.out 5; have hfz79_6 := blk_frozen BK133.out 6; have hfz79_7 := blk_frozen BK133.out 7; have hfz79_8 := blk_frozen BK133.out 8; have hfz79_9 := blk_frozen BK133.out 9) | ((with_reducible refine gate_store (t := 25) (p := 2) rfl ?_); refine store_event (t := 25) (p := 2) (v := ?vo_w80) (w1 := ((((((((((w78.setCell ⟨gb133, 0, none⟩ (.int .i64 0)).setCell ⟨gb133, 1, none⟩ (.int .i64 0)).setCell ⟨gb133, 2, none⟩ (.int .i64 0)).setCell ⟨gb133, 3, none⟩ (.int .u64 0)).setCell ⟨gb133, 4, none⟩ (.int .i64 0)).setCell ⟨gb133, 5, none⟩ (.int .i64 0)).setCell ⟨gb133, 6, none⟩ (.int .i64 0)).setCell ⟨gb133, 7, none⟩ (.int .i64 0)).setCell ⟨gb133, 8, none⟩ (.int .i64 0)).setCell ⟨gb133, 9, none⟩ (.int .i64 0))) ?hg ?ho ?hn ?hr ?_; (case ho => rfl); (case hg => rfl); (case hn => rfl); (case hr => exact pr_store_exec rfl rfl rfl (run_store_run (P := Try.prog) (o := 0) (cur := #[.int .i64 0, .int .i64 0, .int .i64 0, .int .u64 0, .int .i64 0, .int .i64 0, .int .i64 0, .int .i64 0, .int .i64 0, .int .i64 0]) 25 (.agg #[.int .i64 0, .int .i64 0, .int .i64 0, .int .u64 0, .int .i64 0, .int .i64 0, .int .i64 0, .int .i64 0, .int .i64 0, .int .i64 0]) [.int .i64 0, .int .i64 0, .int .i64 0, .int .u64 0, .int .i64 0, .int .i64 0, .int .i64 0, .int .i64 0, .int .i64 0, .int .i64 0] (show _ = some (Obj.cells #[.int .i64 0, .int .i64 0, .int .i64 0, .int .u64 0, .int .i64 0, .int .i64 0, .int .i64 0, .int .i64 0, .int .i64 0, .int .i64 0] 25 (0, 0)) from (by (with_reducible repeat (first | refine blk_drewN ?_ _ | refine blk_drew ?_ | refine blk_alloc ?_ _)); exact BK133.out)) rfl (by kernel_rfl) (show 10 ≤ 10 by decide) (by intro q_ hq_; simp only [List.mem_cons, List.not_mem_nil, or_false] at hq_; rcases hq_ with rfl | rfl | rfl | rfl | rfl | rfl | rfl | rfl | rfl | rfl <;> rfl))); intro w80 hw; have n0_ : Aside0 (Kd.R (Kd.int .i64) 3 w80 w.heap.size (fun _ => True) (.slice (some ad145) x4_1.length co28) x4_1) := ⟨(by rw [hw]; exact (by (with_reducible repeat (first | apply Kd.R_alloc | apply Kd.R_drewN | apply Kd.R_drew)); exact Kd.R_mono (Kd.R_far (p := ⟨gb133, 9, none⟩) (Kd.R_far (p := ⟨gb133, 8, none⟩) (Kd.R_far (p := ⟨gb133, 7, none⟩) (Kd.R_far (p := ⟨gb133, 6, none⟩) (Kd.R_far (p := ⟨gb133, 5, none⟩) (Kd.R_far (p := ⟨gb133, 4, none⟩) (Kd.R_far (p := ⟨gb133, 3, none⟩) (Kd.R_far (p := ⟨gb133, 2, none⟩) (Kd.R_far (p := ⟨gb133, 1, none⟩) (Kd.R_far (p := ⟨gb133, 0, none⟩) (Kd.R_types HO_4.out BK133.out (by decide)) (fun _ hk => hk.2) (.int .i64 0)) (fun _ hk => hk.2) (.int .i64 0)) (fun _ hk => hk.2) (.int .i64 0)) (fun _ hk => hk.2) (.int .u64 0)) (fun _ hk => hk.2) (.int .i64 0)) (fun _ hk => hk.2) (.int .i64 0)) (fun _ hk => hk.2) (.int .i64 0)) (fun _ hk => hk.2) (.int .i64 0)) (fun _ hk => hk.2) (.int .i64 0)) (fun _ hk => hk.2) (.int .i64 0)) (fun _ hk => trivial)))⟩; have n1_ : Aside0 (Kd.R (Kd.int .u64) 22 w80 w.heap.size (fun _ => True) v153 t152) := ⟨(by rw [hw]; exact (by (with_reducible repeat (first | apply Kd.R_alloc | apply Kd.R_drewN | apply Kd.R_drew)); exact Kd.R_mono (Kd.R_far (p := ⟨gb133, 9, none⟩) (Kd.R_far (p := ⟨gb133, 8, none⟩) (Kd.R_far (p := ⟨gb133, 7, none⟩) (Kd.R_far (p := ⟨gb133, 6, none⟩) (Kd.R_far (p := ⟨gb133, 5, none⟩) (Kd.R_far (p := ⟨gb133, 4, none⟩) (Kd.R_far (p := ⟨gb133, 3, none⟩) (Kd.R_far (p := ⟨gb133, 2, none⟩) (Kd.R_far (p := ⟨gb133, 1, none⟩) (Kd.R_far (p := ⟨gb133, 0, none⟩) (Kd.R_types HO154.out BK133.out (by decide)) (fun _ hk => hk.2) (.int .i64 0)) (fun _ hk => hk.2) (.int .i64 0)) (fun _ hk => hk.2) (.int .i64 0)) (fun _ hk => hk.2) (.int .u64 0)) (fun _ hk => hk.2) (.int .i64 0)) (fun _ hk => hk.2) (.int .i64 0)) (fun _ hk => hk.2) (.int .i64 0)) (fun _ hk => hk.2) (.int .i64 0)) (fun _ hk => hk.2) (.int .i64 0)) (fun _ hk => hk.2) (.int .i64 0)) (fun _ hk => trivial)))⟩; have n2_ : Aside0 (w80.heap[gb133]? = some (.cells #[.int .i64 0, .int .i64 0, .int .i64 0, .int .u64 0, .int .i64 0, .int .i64 0, .int .i64 0, .int .i64 0, .int .i64 0, .int .i64 0] 25 (0, 0))) := ⟨(by rw [hw]; exact (by (with_reducible repeat (first | refine blk_drewN ?_ _ | refine blk_drew ?_ | refine blk_alloc ?_ _)); refine blk_put (cs := #[.int .i64 0, .int .i64 0, .int .i64 0, .int .u64 0, .int .i64 0, .int .i64 0, .int .i64 0, .int .i64 0, .int .i64 0, .int .i64 0]) ?_ 9 _ rfl; (with_reducible repeat (first | refine blk_drewN ?_ _ | refine blk_drew ?_ | refine blk_alloc ?_ _)); refine blk_put (cs := #[.int .i64 0, .int .i64 0, .int .i64 0, .int .u64 0, .int .i64 0, .int .i64 0, .int .i64 0, .int .i64 0, .int .i64 0, .int .i64 0]) ?_ 8 _ rfl; (with_reducible repeat (first | refine blk_drewN ?_ _ | refine blk_drew ?_ | refine blk_alloc ?_ _)); refine blk_put (cs := #[.int .i64 0, .int .i64 0, .int .i64 0, .int .u64 0, .int .i64 0, .int .i64 0, .int .i64 0, .int .i64 0, .int .i64 0, .int .i64 0]) ?_ 7 _ rfl; (with_reducible repeat (first | refine blk_drewN ?_ _ | refine blk_drew ?_ | refine blk_alloc ?_ _)); refine blk_put (cs := #[.int .i64 0, .int .i64 0, .int .i64 0, .int .u64 0, .int .i64 0, .int .i64 0, .int .i64 0, .int .i64 0, .int .i64 0, .int .i64 0]) ?_ 6 _ rfl; (with_reducible repeat (first | refine blk_drewN ?_ _ | refine blk_drew ?_ | refine blk_alloc ?_ _)); refine blk_put (cs := #[.int .i64 0, .int .i64 0, .int .i64 0, .int .u64 0, .int .i64 0, .int .i64 0, .int .i64 0, .int .i64 0, .int .i64 0, .int .i64 0]) ?_ 5 _ rfl; (with_reducible repeat (first | refine blk_drewN ?_ _ | refine blk_drew ?_ | refine blk_alloc ?_ _)); refine blk_put (cs := #[.int .i64 0, .int .i64 0, .int .i64 0, .int .u64 0, .int .i64 0, .int .i64 0, .int .i64 0, .int .i64 0, .int .i64 0, .int .i64 0]) ?_ 4 _ rfl; (with_reducible repeat (first | refine blk_drewN ?_ _ | refine blk_drew ?_ | refine blk_alloc ?_ _)); refine blk_put (cs := #[.int .i64 0, .int .i64 0, .int .i64 0, .int .u64 0, .int .i64 0, .int .i64 0, .int .i64 0, .int .i64 0, .int .i64 0, .int .i64 0]) ?_ 3 _ rfl; (with_reducible repeat (first | refine blk_drewN ?_ _ | refine blk_drew ?_ | refine blk_alloc ?_ _)); refine blk_put (cs := #[.int .i64 0, .int .i64 0, .int .i64 0, .int .u64 0, .int .i64 0, .int .i64 0, .int .i64 0, .int .i64 0, .int .i64 0, .int .i64 0]) ?_ 2 _ rfl; (with_reducible repeat (first | refine blk_drewN ?_ _ | refine blk_drew ?_ | refine blk_alloc ?_ _)); refine blk_put (cs := #[.int .i64 0, .int .i64 0, .int .i64 0, .int .u64 0, .int .i64 0, .int .i64 0, .int .i64 0, .int .i64 0, .int .i64 0, .int .i64 0]) ?_ 1 _ rfl; (with_reducible repeat (first | refine blk_drewN ?_ _ | refine blk_drew ?_ | refine blk_alloc ?_ _)); refine blk_put (cs := #[.int .i64 0, .int .i64 0, .int .i64 0, .int .u64 0, .int .i64 0, .int .i64 0, .int .i64 0, .int .i64 0, .int .i64 0, .int .i64 0]) ?_ 0 _ rfl; (with_reducible repeat (first | refine blk_drewN ?_ _ | refine blk_drew ?_ | refine blk_alloc ?_ _)); exact BK133.out))⟩; have n3_ : Aside0 (w80.heap[gb150]? = some (.cells #[.int .i64 (rd x4_1 0), .int .i64 (rd x4_1 1), .int .i64 (rd x4_1 2), .int .u64 (rd l0 1), .int .i64 x151004_2, .int .i64 x151005_2, .int .i64 x151006_2, .int .i64 x151007_2, .int .i64 x151008_2, .int .i64 (wrap64 ((rd x4_1 (ji24)) - 1))] 25 (0, 0))) := ⟨(by rw [hw]; exact (by (with_reducible repeat (first | refine blk_drewN ?_ _ | refine blk_drew ?_ | refine blk_alloc ?_ _)); refine blk_far ?_ NB150_133.out _; (with_reducible repeat (first | refine blk_drewN ?_ _ | refine blk_drew ?_ | refine blk_alloc ?_ _)); refine blk_far ?_ NB150_133.out _; (with_reducible repeat (first | refine blk_drewN ?_ _ | refine blk_drew ?_ | refine blk_alloc ?_ _)); refine blk_far ?_ NB150_133.out _; (with_reducible repeat (first | refine blk_drewN ?_ _ | refine blk_drew ?_ | refine blk_alloc ?_ _)); refine blk_far ?_ NB150_133.out _; (with_reducible repeat (first | refine blk_drewN ?_ _ | refine blk_drew ?_ | refine blk_alloc ?_ _)); refine blk_far ?_ NB150_133.out _; (with_reducible repeat (first | refine blk_drewN ?_ _ | refine blk_drew ?_ | refine blk_alloc ?_ _)); refine blk_far ?_ NB150_133.out _; (with_reducible repeat (first | refine blk_drewN ?_ _ | refine blk_drew ?_ | refine blk_alloc ?_ _)); refine blk_far ?_ NB150_133.out _; (with_reducible repeat (first | refine blk_drewN ?_ _ | refine blk_drew ?_ | refine blk_alloc ?_ _)); refine blk_far ?_ NB150_133.out _; (with_reducible repeat (first | refine blk_drewN ?_ _ | refine blk_drew ?_ | refine blk_alloc ?_ _)); refine blk_far ?_ NB150_133.out _; (with_reducible repeat (first | refine blk_drewN ?_ _ | refine blk_drew ?_ | refine blk_alloc ?_ _)); refine blk_far ?_ NB150_133.out _; (with_reducible repeat (first | refine blk_drewN ?_ _ | refine blk_drew ?_ | refine blk_alloc ?_ _)); exact BK150.out))⟩; have n4_ : Aside0 (Below w.heap.size w w80) := ⟨(by rw [hw]; exact (by repeat (first | (with_reducible first | exact HB.out | apply below_alloc | apply pw_below_drewN | apply below_drew1 | refine below_set ?_ GE133.out | refine below_set ?_ GE150.out) | exact HB.out)))⟩; clear hw; clear HO_4; clear HO154; clear BK133; clear BK150; clear HB; have HO_4 := n0_; have HO154 := n1_; have BK133 := n2_; have BK150 := n3_; have HB := n4_; clear n0_ n1_ n2_ n3_ n4_))
                              refine bodyPost_ret (results_ct rfl _ _ gb133 25 #[.int .i64 0, .int .i64 0, .int .i64 0, .int .u64 0, .int .i64 0, .int .i64 0, .int .i64 0, .int .i64 0, .int .i64 0, .int .i64 0] (0, 0) _ rfl (by (with_reducible repeat (first | refine blk_drewN ?_ _ | refine blk_drew ?_ | refine blk_alloc ?_ _)); exact BK133.out) Try.underlying25 rfl (by kernel_rfl)) rfl ?_
                              exact ⟨by first | rfl | (simp [errW_none, errW_some] <;> rfl) | (simp only [← hji24]; first | rfl | (simp [errW_none, errW_some] <;> rfl)) | (simp [*, errW_none, errW_some] <;> rfl), by repeat (first | (with_reducible first | exact HB.out | apply below_alloc | apply pw_below_drewN | apply below_drew1 | refine below_set ?_ GE133.out | refine below_set ?_ GE150.out) | exact HB.out)⟩
                    · rw [if_neg c26] at H
                      exact absurd H (by simp)
                  · rw [if_neg c25] at H
                    exact absurd H (by simp)
                · rw [if_neg c23] at H
                  exact absurd H (by simp)
              · rw [if_neg c22] at H
                exact absurd H (by simp)
            · rw [if_neg c21] at H
              exact absurd H (by simp)
          · rw [if_neg c20] at H
            exact absurd H (by simp)
  · rw [if_neg c2] at H
    have c2b0 : ((l0.length : Int) == 8) = false := beq_eq_false_iff_ne.mpr c2
    have c2b1 : ((l0.length : Int) != 8) = true := bne_iff_ne.mpr c2
    simp only [Option.some.injEq, Prod.mk.injEq] at H
    obtain ⟨rfl, rfl, rfl, rfl, rfl, rfl, rfl, rfl, rfl, rfl, rfl⟩ := H
    go_enter Try.func14, Try.ntmps14
    go_wp2_with (first | ((with_reducible refine gate_dst (N := 2) rfl ?_); refine box_event ?hg (N := 2) ?hd (cs := #[.int .i64 0, .int .i64 0, .int .i64 0, .int .u64 0, .int .i64 0, .int .i64 0, .int .i64 0, .int .i64 0, .int .i64 0, .int .i64 0]) (t := 25) ?hr ?_; (case hd => rfl); (case hg => rfl); (case hr => first | (go_simp; done) | (go_simp; rfl)); intro gb133 hg w81 hbox hb; have n0_ := Aside0.mk (below_step (by repeat (first | (with_reducible first | exact HB.out | apply below_alloc | apply pw_below_drewN | apply below_drew1) | exact HB.out)) hb); have n1_ := Aside0.mk (hbox); have n2_ := Aside0.mk ((by rw [hg]; exact (below_size (by repeat (first | (with_reducible first | exact HB.out | apply below_alloc | apply pw_below_drewN | apply below_drew1) | exact HB.out))) : w.heap.size ≤ gb133)); have n3_ := Aside0.mk ((by rw [hg]; exact (below_size (by repeat (first | (with_reducible first | exact HB.out | apply below_alloc | apply pw_below_drewN | apply below_drew1) | exact HB.out))) : w.heap.size ≤ gb133)); clear HB; have HB := n0_; have BK133 := n1_; have GW133 := n2_; have GE133 := n3_; clear n0_ n1_ n2_ n3_; clear hb hbox hg; have hcz82_0 : w81.cell? ⟨gb133, 0, none⟩ = some (.int .i64 0) := (blk_cell BK133.out 0).trans rfl; have hcz82_1 : w81.cell? ⟨gb133, 1, none⟩ = some (.int .i64 0) := (blk_cell BK133.out 1).trans rfl; have hcz82_2 : w81.cell? ⟨gb133, 2, none⟩ = some (.int .i64 0) := (blk_cell BK133.out 2).trans rfl; have hcz82_3 : w81.cell? ⟨gb133, 3, none⟩ = some (.int .u64 0) := (blk_cell BK133.out 3).trans rfl; have hcz82_4 : w81.cell? ⟨gb133, 4, none⟩ = some (.int .i64 0) := (blk_cell BK133.out 4).trans rfl; have hcz82_5 : w81.cell? ⟨gb133, 5, none⟩ = some (.int .i64 0) := (blk_cell BK133.out 5).trans rfl; have hcz82_6 : w81.cell? ⟨gb133, 6, none⟩ = some (.int .i64 0) := (blk_cell BK133.out 6).trans rfl; have hcz82_7 : w81.cell? ⟨gb133, 7, none⟩ = some (.int .i64 0) := (blk_cell BK133.out 7).trans rfl; have hcz82_8 : w81.cell? ⟨gb133, 8, none⟩ = some (.int .i64 0) := (blk_cell BK133.out 8).trans rfl; have hcz82_9 : w81.cell? ⟨gb133, 9, none⟩ = some (.int .i64 0) := (blk_cell BK133.out 9).trans rfl; have hfz82_0 := blk_frozen BK133.out 0; have hfz82_1 := blk_frozen BK133.out 1; have hfz82_2 := blk_frozen BK133.out 2; have hfz82_3 := blk_frozen BK133.out 3; have hfz82_4 := blk_frozen BK133.out 4; have hfz82_5 := blk_frozen BK133.out 5; have hfz82_6 := blk_frozen BK133.out 6; have hfz82_7 := blk_frozen BK133.out 7; have hfz82_8 := blk_frozen BK133.out 8; have hfz82_9 := blk_frozen BK133.out 9) | ((with_reducible refine gate_store (t := 25) (p := 2) rfl ?_); refine store_event (t := 25) (p := 2) (v := ?vo_w83) (w1 := ((((((((((w81.setCell ⟨gb133, 0, none⟩ (.int .i64 0)).setCell ⟨gb133, 1, none⟩ (.int .i64 0)).setCell ⟨gb133, 2, none⟩ (.int .i64 0)).setCell ⟨gb133, 3, none⟩ (.int .u64 0)).setCell ⟨gb133, 4, none⟩ (.int .i64 0)).setCell ⟨gb133, 5, none⟩ (.int .i64 0)).setCell ⟨gb133, 6, none⟩ (.int .i64 0)).setCell ⟨gb133, 7, none⟩ (.int .i64 0)).setCell ⟨gb133, 8, none⟩ (.int .i64 0)).setCell ⟨gb133, 9, none⟩ (.int .i64 0))) ?hg ?ho ?hn ?hr ?_; (case ho => rfl); (case hg => rfl); (case hn => rfl); (case hr => exact pr_store_exec rfl rfl rfl (run_store_run (P := Try.prog) (o := 0) (cur := #[.int .i64 0, .int .i64 0, .int .i64 0, .int .u64 0, .int .i64 0, .int .i64 0, .int .i64 0, .int .i64 0, .int .i64 0, .int .i64 0]) 25 (.agg #[.int .i64 0, .int .i64 0, .int .i64 0, .int .u64 0, .int .i64 0, .int .i64 0, .int .i64 0, .int .i64 0, .int .i64 0, .int .i64 0]) [.int .i64 0, .int .i64 0, .int .i64 0, .int .u64 0, .int .i64 0, .int .i64 0, .int .i64 0, .int .i64 0, .int .i64 0, .int .i64 0] (show _ = some (Obj.cells #[.int .i64 0, .int .i64 0, .int .i64 0, .int .u64 0, .int .i64 0, .int .i64 0, .int .i64 0, .int .i64 0, .int .i64 0, .int .i64 0] 25 (0, 0)) from (by (with_reducible repeat (first | refine blk_drewN ?_ _ | refine blk_drew ?_ | refine blk_alloc ?_ _)); exact BK133.out)) rfl (by kernel_rfl) (show 10 ≤ 10 by decide) (by intro q_ hq_; simp only [List.mem_cons, List.not_mem_nil, or_false] at hq_; rcases hq_ with rfl | rfl | rfl | rfl | rfl | rfl | rfl | rfl | rfl | rfl <;> rfl))); intro w83 hw; have n0_ : Aside0 (w83.heap[gb133]? = some (.cells #[.int .i64 0, .int .i64 0, .int .i64 0, .int .u64 0, .int .i64 0, .int .i64 0, .int .i64 0, .int .i64 0, .int .i64 0, .int .i64 0] 25 (0, 0))) := ⟨(by rw [hw]; exact (by (with_reducible repeat (first | refine blk_drewN ?_ _ | refine blk_drew ?_ | refine blk_alloc ?_ _)); refine blk_put (cs := #[.int .i64 0, .int .i64 0, .int .i64 0, .int .u64 0, .int .i64 0, .int .i64 0, .int .i64 0, .int .i64 0, .int .i64 0, .int .i64 0]) ?_ 9 _ rfl; (with_reducible repeat (first | refine blk_drewN ?_ _ | refine blk_drew ?_ | refine blk_alloc ?_ _)); refine blk_put (cs := #[.int .i64 0, .int .i64 0, .int .i64 0, .int .u64 0, .int .i64 0, .int .i64 0, .int .i64 0, .int .i64 0, .int .i64 0, .int .i64 0]) ?_ 8 _ rfl; (with_reducible repeat (first | refine blk_drewN ?_ _ | refine blk_drew ?_ | refine blk_alloc ?_ _)); refine blk_put (cs := #[.int .i64 0, .int .i64 0, .int .i64 0, .int .u64 0, .int .i64 0, .int .i64 0, .int .i64 0, .int .i64 0, .int .i64 0, .int .i64 0]) ?_ 7 _ rfl; (with_reducible repeat (first | refine blk_drewN ?_ _ | refine blk_drew ?_ | refine blk_alloc ?_ _)); refine blk_put (cs := #[.int .i64 0, .int .i64 0, .int .i64 0, .int .u64 0, .int .i64 0, .int .i64 0, .int .i64 0, .int .i64 0, .int .i64 0, .int .i64 0]) ?_ 6 _ rfl; (with_reducible repeat (first | refine blk_drewN ?_ _ | refine blk_drew ?_ | refine blk_alloc ?_ _)); refine blk_put (cs := #[.int .i64 0, .int .i64 0, .int .i64 0, .int .u64 0, .int .i64 0, .int .i64 0, .int .i64 0, .int .i64 0, .int .i64 0, .int .i64 0]) ?_ 5 _ rfl; (with_reducible repeat (first | refine blk_drewN ?_ _ | refine blk_drew ?_ | refine blk_alloc ?_ _)); refine blk_put (cs := #[.int .i64 0, .int .i64 0, .int .i64 0, .int .u64 0, .int .i64 0, .int .i64 0, .int .i64 0, .int .i64 0, .int .i64 0, .int .i64 0]) ?_ 4 _ rfl; (with_reducible repeat (first | refine blk_drewN ?_ _ | refine blk_drew ?_ | refine blk_alloc ?_ _)); refine blk_put (cs := #[.int .i64 0, .int .i64 0, .int .i64 0, .int .u64 0, .int .i64 0, .int .i64 0, .int .i64 0, .int .i64 0, .int .i64 0, .int .i64 0]) ?_ 3 _ rfl; (with_reducible repeat (first | refine blk_drewN ?_ _ | refine blk_drew ?_ | refine blk_alloc ?_ _)); refine blk_put (cs := #[.int .i64 0, .int .i64 0, .int .i64 0, .int .u64 0, .int .i64 0, .int .i64 0, .int .i64 0, .int .i64 0, .int .i64 0, .int .i64 0]) ?_ 2 _ rfl; (with_reducible repeat (first | refine blk_drewN ?_ _ | refine blk_drew ?_ | refine blk_alloc ?_ _)); refine blk_put (cs := #[.int .i64 0, .int .i64 0, .int .i64 0, .int .u64 0, .int .i64 0, .int .i64 0, .int .i64 0, .int .i64 0, .int .i64 0, .int .i64 0]) ?_ 1 _ rfl; (with_reducible repeat (first | refine blk_drewN ?_ _ | refine blk_drew ?_ | refine blk_alloc ?_ _)); refine blk_put (cs := #[.int .i64 0, .int .i64 0, .int .i64 0, .int .u64 0, .int .i64 0, .int .i64 0, .int .i64 0, .int .i64 0, .int .i64 0, .int .i64 0]) ?_ 0 _ rfl; (with_reducible repeat (first | refine blk_drewN ?_ _ | refine blk_drew ?_ | refine blk_alloc ?_ _)); exact BK133.out))⟩; have n1_ : Aside0 (Below w.heap.size w w83) := ⟨(by rw [hw]; exact (by repeat (first | (with_reducible first | exact HB.out | apply below_alloc | apply pw_below_drewN | apply below_drew1 | refine below_set ?_ GE133.out) | exact HB.out)))⟩; clear hw; clear BK133; clear HB; have BK133 := n0_; have HB := n1_; clear n0_ n1_))
    refine bodyPost_ret (results_ct rfl _ _ gb133 25 #[.int .i64 0, .int .i64 0, .int .i64 0, .int .u64 0, .int .i64 0, .int .i64 0, .int .i64 0, .int .i64 0, .int .i64 0, .int .i64 0] (0, 0) _ rfl (by (with_reducible repeat (first | refine blk_drewN ?_ _ | refine blk_drew ?_ | refine blk_alloc ?_ _)); exact BK133.out) Try.underlying25 rfl (by kernel_rfl)) rfl ?_
    exact ⟨by first | rfl | (simp [errW_none, errW_some] <;> rfl) | (simp [*, errW_none, errW_some] <;> rfl), by repeat (first | (with_reducible first | exact HB.out | apply below_alloc | apply pw_below_drewN | apply below_drew1 | refine below_set ?_ GE133.out) | exact HB.out)⟩

end Go.Proofs.Ytdcmahndbmonbaa.Print
