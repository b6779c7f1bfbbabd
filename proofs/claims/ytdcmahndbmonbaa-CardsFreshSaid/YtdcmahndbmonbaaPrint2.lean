import Derived.Test.YtdcmahndbmonbaaPrint0
namespace Go.Proofs.Ytdcmahndbmonbaa.Print
open Go.RowKit Go.Proofs.YtdcmahndbmonbaaW.PrintWords Go.Proofs.YtdcmahndbmonbaaW.PrintLast Go.Proofs.YtdcmahndbmonbaaW.PrintMore
attribute [local go_sem] max2_int min2_int max_two min_two max_three min_three max_four min_four   -- for this text's walks alone
set_option linter.unusedVariables false
set_option linter.unusedSimpArgs false

/-! ### cards_None: function 18 -/
def cards_None.l0 : Nat → Int → Int → Int → Int → Int → Int → Int → Int → Int → Int → Int → Option (Int × Int × Int × Int × Int × Int × Int × Int × Int × Int)
  | 0, _, _, _, _, _, _, _, _, _, _, _ => none
  | k + 1, x7, x103000, x103001, x103002, x103003, x103004, x103005, x103006, x103007, x103008, x103009 => if x7 < 5 then (if x7 = 0 then (cards_None.l0 k (wrap64 (x7 + 1)) x103000 x103001 x103002 x103003 (-1) x103005 x103006 x103007 x103008 x103009) else (if x7 = 1 then (cards_None.l0 k (wrap64 (x7 + 1)) x103000 x103001 x103002 x103003 x103004 (-1) x103006 x103007 x103008 x103009) else (if x7 = 2 then (cards_None.l0 k (wrap64 (x7 + 1)) x103000 x103001 x103002 x103003 x103004 x103005 (-1) x103007 x103008 x103009) else (if x7 = 3 then (cards_None.l0 k (wrap64 (x7 + 1)) x103000 x103001 x103002 x103003 x103004 x103005 x103006 (-1) x103008 x103009) else (if x7 = 4 then (cards_None.l0 k (wrap64 (x7 + 1)) x103000 x103001 x103002 x103003 x103004 x103005 x103006 x103007 (-1) x103009) else (none)))))) else (some (x103000, x103001, x103002, x103003, x103004, x103005, x103006, x103007, x103008, x103009))
def cards_None.f (k : Nat) (a0 : Int) : Option (Int × Int × Int × Int × Int × Int × Int × Int × Int × Int) := cards_None.l0 k 0 0 0 0 a0 0 0 0 0 0 (-1)
set_option maxHeartbeats 8000000 in
set_option maxRecDepth 100000 in
theorem cards_None.calls (k : Nat) (a0 : Int) (r1 : Int) (r2 : Int) (r3 : Int) (r4 : Int) (r5 : Int) (r6 : Int) (r7 : Int) (r8 : Int) (r9 : Int) (r10 : Int) (w : World) (h : cards_None.f k a0 = some (r1, r2, r3, r4, r5, r6, r7, r8, r9, r10)) :
    Calls Try.prog 18 #[.int .u64 a0] w fun e w' => e = .returned (.agg #[.int .i64 r1, .int .i64 r2, .int .i64 r3, .int .u64 r4, .int .i64 r5, .int .i64 r6, .int .i64 r7, .int .i64 r8, .int .i64 r9, .int .i64 r10]) ∧ Below w.heap.size w w' := by
  have hu25 := Try.underlying25
  have HB := Aside0.mk (Below.refl w.heap.size w)
  have H : (cards_None.l0 k 0 0 0 0 a0 0 0 0 0 0 (-1)) = some (r1, r2, r3, r4, r5, r6, r7, r8, r9, r10) := h
  clear h
  have H' := Aside0.mk H
  clear H
  go_enter Try.func18, Try.ntmps18
  go_wp2_with (first | ((with_reducible refine gate_dst (N := 2) rfl ?_); refine box_event ?hg (N := 2) ?hd (cs := #[.int .i64 0, .int .i64 0, .int .i64 0, .int .u64 0, .int .i64 0, .int .i64 0, .int .i64 0, .int .i64 0, .int .i64 0, .int .i64 0]) (t := 25) ?hr ?_; (case hd => rfl); (case hg => rfl); (case hr => first | (go_simp; done) | (go_simp; rfl)); intro gb101 hg w2 hbox hb; have n0_ := Aside0.mk (below_step (by repeat (first | (with_reducible first | exact HB.out | apply below_alloc | apply pw_below_drewN | apply below_drew1) | exact HB.out)) hb); have n1_ := Aside0.mk (hbox); have n2_ := Aside0.mk ((by rw [hg]; exact (below_size (by repeat (first | (with_reducible first | exact HB.out | apply below_alloc | apply pw_below_drewN | apply below_drew1) | exact HB.out))) : w.heap.size ≤ gb101)); have n3_ := Aside0.mk ((by rw [hg]; exact (below_size (by repeat (first | (with_reducible first | exact HB.out | apply below_alloc | apply pw_below_drewN | apply below_drew1) | exact HB.out))) : w.heap.size ≤ gb101)); clear HB; have HB := n0_; have BK101 := n1_; have GW101 := n2_; have GE101 := n3_; clear n0_ n1_ n2_ n3_; clear hb hbox hg) | ((with_reducible refine gate_dst (N := 3) rfl ?_); refine box_event ?hg (N := 3) ?hd (cs := #[.int .i64 0, .int .i64 0, .int .i64 0, .int .u64 0, .int .i64 0, .int .i64 0, .int .i64 0, .int .i64 0, .int .i64 0, .int .i64 0]) (t := 25) ?hr ?_; (case hd => rfl); (case hg => rfl); (case hr => first | (go_simp; done) | (go_simp; rfl)); intro gb102 hg w3 hbox hb; have n0_ := Aside0.mk (blk_below (g := gb101) (o := .cells #[.int .i64 0, .int .i64 0, .int .i64 0, .int .u64 0, .int .i64 0, .int .i64 0, .int .i64 0, .int .i64 0, .int .i64 0, .int .i64 0] 25 (0, 0)) (by (with_reducible repeat (first | refine blk_drewN ?_ _ | refine blk_drew ?_ | refine blk_alloc ?_ _)); exact BK101.out) hb); have n1_ := Aside0.mk (below_step (by repeat (first | (with_reducible first | exact HB.out | apply below_alloc | apply pw_below_drewN | apply below_drew1 | refine below_set ?_ GE101.out) | exact HB.out)) hb); have n2_ := Aside0.mk (hbox); have n3_ := Aside0.mk ((by rw [hg]; exact (below_size (by repeat (first | (with_reducible first | exact HB.out | apply below_alloc | apply pw_below_drewN | apply below_drew1 | refine below_set ?_ GE101.out) | exact HB.out))) : w.heap.size ≤ gb102)); have n4_ := Aside0.mk ((by rw [hg]; exact (below_size (by repeat (first | (with_reducible first | exact HB.out | apply below_alloc | apply pw_below_drewN | apply below_drew1 | refine below_set ?_ GE101.out) | exact HB.out))) : w.heap.size ≤ gb102)); have n5_ := Aside0.mk ((by rw [hg]; exact Nat.ne_of_lt (blk_lt (g := gb101) (o := .cells #[.int .i64 0, .int .i64 0, .int .i64 0, .int .u64 0, .int .i64 0, .int .i64 0, .int .i64 0, .int .i64 0, .int .i64 0, .int .i64 0] 25 (0, 0)) (by (with_reducible repeat (first | refine blk_drewN ?_ _ | refine blk_drew ?_ | refine blk_alloc ?_ _)); exact BK101.out)) : gb101 ≠ gb102)); have n6_ := Aside0.mk ((by rw [hg]; exact Nat.ne_of_gt (blk_lt (g := gb101) (o := .cells #[.int .i64 0, .int .i64 0, .int .i64 0, .int .u64 0, .int .i64 0, .int .i64 0, .int .i64 0, .int .i64 0, .int .i64 0, .int .i64 0] 25 (0, 0)) (by (with_reducible repeat (first | refine blk_drewN ?_ _ | refine blk_drew ?_ | refine blk_alloc ?_ _)); exact BK101.out)) : gb102 ≠ gb101)); clear BK101; clear HB; have BK101 := n0_; have HB := n1_; have BK102 := n2_; have GW102 := n3_; have GE102 := n4_; have NB101_102 := n5_; have NB102_101 := n6_; clear n0_ n1_ n2_ n3_ n4_ n5_ n6_; clear hb hbox hg; have hnb4 := NB102_101.out; have hnc4 := NB101_102.out; have hcz5_0 : w3.cell? ⟨gb102, 0, none⟩ = some (.int .i64 0) := (blk_cell BK102.out 0).trans rfl; have hcz5_1 : w3.cell? ⟨gb102, 1, none⟩ = some (.int .i64 0) := (blk_cell BK102.out 1).trans rfl; have hcz5_2 : w3.cell? ⟨gb102, 2, none⟩ = some (.int .i64 0) := (blk_cell BK102.out 2).trans rfl; have hcz5_3 : w3.cell? ⟨gb102, 3, none⟩ = some (.int .u64 0) := (blk_cell BK102.out 3).trans rfl; have hcz5_4 : w3.cell? ⟨gb102, 4, none⟩ = some (.int .i64 0) := (blk_cell BK102.out 4).trans rfl; have hcz5_5 : w3.cell? ⟨gb102, 5, none⟩ = some (.int .i64 0) := (blk_cell BK102.out 5).trans rfl; have hcz5_6 : w3.cell? ⟨gb102, 6, none⟩ = some (.int .i64 0) := (blk_cell BK102.out 6).trans rfl; have hcz5_7 : w3.cell? ⟨gb102, 7, none⟩ = some (.int .i64 0) := (blk_cell BK102.out 7).trans rfl; have hcz5_8 : w3.cell? ⟨gb102, 8, none⟩ = some (.int .i64 0) := (blk_cell BK102.out 8).trans rfl; have hcz5_9 : w3.cell? ⟨gb102, 9, none⟩ = some (.int .i64 0) := (blk_cell BK102.out 9).trans rfl; have hfz5_0 := blk_frozen BK102.out 0; have hfz5_1 := blk_frozen BK102.out 1; have hfz5_2 := blk_frozen BK102.out 2; have hfz5_3 := blk_frozen BK102.out 3; have hfz5_4 := blk_frozen BK102.out 4; have hfz5_5 := blk_frozen BK102.out 5; have hfz5_6 := blk_frozen BK102.out 6; have hfz5_7 := blk_frozen BK102.out 7; have hfz5_8 := blk_frozen BK102.out 8; have hfz5_9 := blk_frozen BK102.out 9) | ((with_reducible refine gate_store (t := 25) (p := 3) rfl ?_); refine store_event (t := 25) (p := 3) (v := ?vo_w6) (w1 := ((((((((((w3.setCell ⟨gb102, 0, none⟩ (.int .i64 0)).setCell ⟨gb102, 1, none⟩ (.int .i64 0)).setCell ⟨gb102, 2, none⟩ (.int .i64 0)).setCell ⟨gb102, 3, none⟩ (.int .u64 a0)).setCell ⟨gb102, 4, none⟩ (.int .i64 0)).setCell ⟨gb102, 5, none⟩ (.int .i64 0)).setCell ⟨gb102, 6, none⟩ (.int .i64 0)).setCell ⟨gb102, 7, none⟩ (.int .i64 0)).setCell ⟨gb102, 8, none⟩ (.int .i64 0)).setCell ⟨gb102, 9, none⟩ (.int .i64 (-1)))) ?hg ?ho ?hn ?hr ?_; (case ho => rfl); (case hg => rfl); (case hn => rfl); (case hr => exact pr_store_exec rfl rfl rfl (run_store_run (P := Try.prog) (o := 0) (cur := #[.int .i64 0, .int .i64 0, .int .i64 0, .int .u64 0, .int .i64 0, .int .i64 0, .int .i64 0, .int .i64 0, .int .i64 0, .int .i64 0]) 25 (.agg #[.int .i64 0, .int .i64 0, .int .i64 0, .int .u64 a0, .int .i64 0, .int .i64 0, .int .i64 0, .int .i64 0, .int .i64 0, .int .i64 (-1)]) [.int .i64 0, .int .i64 0, .int .i64 0, .int .u64 a0, .int .i64 0, .int .i64 0, .int .i64 0, .int .i64 0, .int .i64 0, .int .i64 (-1)] (show _ = some (Obj.cells #[.int .i64 0, .int .i64 0, .int .i64 0, .int .u64 0, .int .i64 0, .int .i64 0, .int .i64 0, .int .i64 0, .int .i64 0, .int .i64 0] 25 (0, 0)) from (by (with_reducible repeat (first | refine blk_drewN ?_ _ | refine blk_drew ?_ | refine blk_alloc ?_ _)); exact BK102.out)) rfl (by kernel_rfl) (show 10 ≤ 10 by decide) (by intro q_ hq_; simp only [List.mem_cons, List.not_mem_nil, or_false] at hq_; rcases hq_ with rfl | rfl | rfl | rfl | rfl | rfl | rfl | rfl | rfl | rfl <;> rfl))); intro w6 hw; have n0_ : Aside0 (w6.heap[gb101]? = some (.cells #[.int .i64 0, .int .i64 0, .int .i64 0, .int .u64 0, .int .i64 0, .int .i64 0, .int .i64 0, .int .i64 0, .int .i64 0, .int .i64 0] 25 (0, 0))) := ⟨(by rw [hw]; exact (by (with_reducible repeat (first | refine blk_drewN ?_ _ | refine blk_drew ?_ | refine blk_alloc ?_ _)); refine blk_far ?_ NB101_102.out _; (with_reducible repeat (first | refine blk_drewN ?_ _ | refine blk_drew ?_ | refine blk_alloc ?_ _)); refine blk_far ?_ NB101_102.out _; (with_reducible repeat (first | refine blk_drewN ?_ _ | refine blk_drew ?_ | refine blk_alloc ?_ _)); refine blk_far ?_ NB101_102.out _; (with_reducible repeat (first | refine blk_drewN ?_ _ | refine blk_drew ?_ | refine blk_alloc ?_ _)); refine blk_far ?_ NB101_102.out _; (with_reducible repeat (first | refine blk_drewN ?_ _ | refine blk_drew ?_ | refine blk_alloc ?_ _)); refine blk_far ?_ NB101_102.out _; (with_reducible repeat (first | refine blk_drewN ?_ _ | refine blk_drew ?_ | refine blk_alloc ?_ _)); refine blk_far ?_ NB101_102.out _; (with_reducible repeat (first | refine blk_drewN ?_ _ | refine blk_drew ?_ | refine blk_alloc ?_ _)); refine blk_far ?_ NB101_102.out _; (with_reducible repeat (first | refine blk_drewN ?_ _ | refine blk_drew ?_ | refine blk_alloc ?_ _)); refine blk_far ?_ NB101_102.out _; (with_reducible repeat (first | refine blk_drewN ?_ _ | refine blk_drew ?_ | refine blk_alloc ?_ _)); refine blk_far ?_ NB101_102.out _; (with_reducible repeat (first | refine blk_drewN ?_ _ | refine blk_drew ?_ | refine blk_alloc ?_ _)); refine blk_far ?_ NB101_102.out _; (with_reducible repeat (first | refine blk_drewN ?_ _ | refine blk_drew ?_ | refine blk_alloc ?_ _)); exact BK101.out))⟩; have n1_ : Aside0 (w6.heap[gb102]? = some (.cells #[.int .i64 0, .int .i64 0, .int .i64 0, .int .u64 a0, .int .i64 0, .int .i64 0, .int .i64 0, .int .i64 0, .int .i64 0, .int .i64 (-1)] 25 (0, 0))) := ⟨(by rw [hw]; exact (by (with_reducible repeat (first | refine blk_drewN ?_ _ | refine blk_drew ?_ | refine blk_alloc ?_ _)); refine blk_put (cs := #[.int .i64 0, .int .i64 0, .int .i64 0, .int .u64 a0, .int .i64 0, .int .i64 0, .int .i64 0, .int .i64 0, .int .i64 0, .int .i64 0]) ?_ 9 _ rfl; (with_reducible repeat (first | refine blk_drewN ?_ _ | refine blk_drew ?_ | refine blk_alloc ?_ _)); refine blk_put (cs := #[.int .i64 0, .int .i64 0, .int .i64 0, .int .u64 a0, .int .i64 0, .int .i64 0, .int .i64 0, .int .i64 0, .int .i64 0, .int .i64 0]) ?_ 8 _ rfl; (with_reducible repeat (first | refine blk_drewN ?_ _ | refine blk_drew ?_ | refine blk_alloc ?_ _)); refine blk_put (cs := #[.int .i64 0, .int .i64 0, .int .i64 0, .int .u64 a0, .int .i64 0, .int .i64 0, .int .i64 0, .int .i64 0, .int .i64 0, .int .i64 0]) ?_ 7 _ rfl; (with_reducible repeat (first | refine blk_drewN ?_ _ | refine blk_drew ?_ | refine blk_alloc ?_ _)); refine blk_put (cs := #[.int .i64 0, .int .i64 0, .int .i64 0, .int .u64 a0, .int .i64 0, .int .i64 0, .int .i64 0, .int .i64 0, .int .i64 0, .int .i64 0]) ?_ 6 _ rfl; (with_reducible repeat (first | refine blk_drewN ?_ _ | refine blk_drew ?_ | refine blk_alloc ?_ _)); refine blk_put (cs := #[.int .i64 0, .int .i64 0, .int .i64 0, .int .u64 a0, .int .i64 0, .int .i64 0, .int .i64 0, .int .i64 0, .int .i64 0, .int .i64 0]) ?_ 5 _ rfl; (with_reducible repeat (first | refine blk_drewN ?_ _ | refine blk_drew ?_ | refine blk_alloc ?_ _)); refine blk_put (cs := #[.int .i64 0, .int .i64 0, .int .i64 0, .int .u64 a0, .int .i64 0, .int .i64 0, .int .i64 0, .int .i64 0, .int .i64 0, .int .i64 0]) ?_ 4 _ rfl; (with_reducible repeat (first | refine blk_drewN ?_ _ | refine blk_drew ?_ | refine blk_alloc ?_ _)); refine blk_put (cs := #[.int .i64 0, .int .i64 0, .int .i64 0, .int .u64 0, .int .i64 0, .int .i64 0, .int .i64 0, .int .i64 0, .int .i64 0, .int .i64 0]) ?_ 3 _ rfl; (with_reducible repeat (first | refine blk_drewN ?_ _ | refine blk_drew ?_ | refine blk_alloc ?_ _)); refine blk_put (cs := #[.int .i64 0, .int .i64 0, .int .i64 0, .int .u64 0, .int .i64 0, .int .i64 0, .int .i64 0, .int .i64 0, .int .i64 0, .int .i64 0]) ?_ 2 _ rfl; (with_reducible repeat (first | refine blk_drewN ?_ _ | refine blk_drew ?_ | refine blk_alloc ?_ _)); refine blk_put (cs := #[.int .i64 0, .int .i64 0, .int .i64 0, .int .u64 0, .int .i64 0, .int .i64 0, .int .i64 0, .int .i64 0, .int .i64 0, .int .i64 0]) ?_ 1 _ rfl; (with_reducible repeat (first | refine blk_drewN ?_ _ | refine blk_drew ?_ | refine blk_alloc ?_ _)); refine blk_put (cs := #[.int .i64 0, .int .i64 0, .int .i64 0, .int .u64 0, .int .i64 0, .int .i64 0, .int .i64 0, .int .i64 0, .int .i64 0, .int .i64 0]) ?_ 0 _ rfl; (with_reducible repeat (first | refine blk_drewN ?_ _ | refine blk_drew ?_ | refine blk_alloc ?_ _)); exact BK102.out))⟩; have n2_ : Aside0 (Below w.heap.size w w6) := ⟨(by rw [hw]; exact (by repeat (first | (with_reducible first | exact HB.out | apply below_alloc | apply pw_below_drewN | apply below_drew1 | refine below_set ?_ GE101.out | refine below_set ?_ GE102.out) | exact HB.out)))⟩; clear hw; clear BK101; clear BK102; clear HB; have BK101 := n0_; have BK102 := n1_; have HB := n2_; clear n0_ n1_ n2_))
  go_loopg [7] k (fun kq v7 w' => ∃ (x7_1 : Int) (x103004_1 : Int) (x103005_1 : Int) (x103006_1 : Int) (x103007_1 : Int) (x103008_1 : Int), v7 = .int .i64 x7_1 ∧ Aside0 (cards_None.l0 kq x7_1 0 0 0 a0 x103004_1 x103005_1 x103006_1 x103007_1 x103008_1 (-1) = some (r1, r2, r3, r4, r5, r6, r7, r8, r9, r10)) ∧ Aside0 (kq ≤ k) ∧ Aside0 (w'.heap[gb101]? = some (.cells #[.int .i64 0, .int .i64 0, .int .i64 0, .int .u64 0, .int .i64 0, .int .i64 0, .int .i64 0, .int .i64 0, .int .i64 0, .int .i64 0] 25 (0, 0))) ∧ Aside0 (w'.heap[gb102]? = some (.cells #[.int .i64 0, .int .i64 0, .int .i64 0, .int .u64 a0, .int .i64 x103004_1, .int .i64 x103005_1, .int .i64 x103006_1, .int .i64 x103007_1, .int .i64 x103008_1, .int .i64 (-1)] 25 (0, 0))) ∧ Aside0 (Below w.heap.size w w'))
  case atStart => exact ⟨(0), (0), (0), (0), (0), (0), (by first | rfl | (simp; done) | (simp [*]; done) | kernel_rfl), H', ⟨Nat.le_refl _⟩, ⟨by (with_reducible repeat (first | refine blk_drewN ?_ _ | refine blk_drew ?_ | refine blk_alloc ?_ _)); exact BK101.out⟩, ⟨by (with_reducible repeat (first | refine blk_drewN ?_ _ | refine blk_drew ?_ | refine blk_alloc ?_ _)); exact BK102.out⟩, ⟨by repeat (first | (with_reducible first | exact HB.out | apply below_alloc | apply pw_below_drewN | apply below_drew1 | refine below_set ?_ GE101.out | refine below_set ?_ GE102.out) | exact HB.out)⟩⟩
  case round =>
    clear H'
    try clear c1
    try clear p2
    try clear c4
    try clear hcz5_0
    try clear hcz5_1
    try clear hcz5_2
    try clear hcz5_3
    try clear hcz5_4
    try clear hcz5_5
    try clear hcz5_6
    try clear hcz5_7
    try clear hcz5_8
    try clear hcz5_9
    try clear hfz5_0
    try clear hfz5_1
    try clear hfz5_2
    try clear hfz5_3
    try clear hfz5_4
    try clear hfz5_5
    try clear hfz5_6
    try clear hfz5_7
    try clear hfz5_8
    try clear hfz5_9
    obtain ⟨x7_1, x103004_1, x103005_1, x103006_1, x103007_1, x103008_1, rfl, HA, HK1, BK101, BK102, HB⟩ := hrel
    cases gk with
    | zero => exact absurd HA.out (by simp [cards_None.l0])
    | succ k1 =>
      have H := HA.out
      clear HA
      simp only [cards_None.l0] at H
      by_cases c7 : x7_1 < 5
      · rw [if_pos c7] at H
        have c7b0 : decide (x7_1 < 5) = true := decide_eq_true c7
        clear c7
        by_cases c8 : x7_1 = 0
        · subst c8
          have H1 : (cards_None.l0 k1 (wrap64 (0 + 1)) 0 0 0 a0 (-1) x103005_1 x103006_1 x103007_1 x103008_1 (-1)) = some (r1, r2, r3, r4, r5, r6, r7, r8, r9, r10) := by rw [if_pos rfl] at H; exact H
          clear H
          have H := H1
          clear H1
          have H' := Aside0.mk H
          clear H
          have hnb9 := NB102_101.out
          have hnc9 := NB101_102.out
          have hcz10_0 : wr.cell? ⟨gb102, 0, none⟩ = some (.int .i64 0) := (blk_cell BK102.out 0).trans rfl
          have hcz10_1 : wr.cell? ⟨gb102, 1, none⟩ = some (.int .i64 0) := (blk_cell BK102.out 1).trans rfl
          have hcz10_2 : wr.cell? ⟨gb102, 2, none⟩ = some (.int .i64 0) := (blk_cell BK102.out 2).trans rfl
          have hcz10_3 : wr.cell? ⟨gb102, 3, none⟩ = some (.int .u64 a0) := (blk_cell BK102.out 3).trans rfl
          have hcz10_4 : wr.cell? ⟨gb102, 4, none⟩ = some (.int .i64 x103004_1) := (blk_cell BK102.out 4).trans rfl
          have hcz10_5 : wr.cell? ⟨gb102, 5, none⟩ = some (.int .i64 x103005_1) := (blk_cell BK102.out 5).trans rfl
          have hcz10_6 : wr.cell? ⟨gb102, 6, none⟩ = some (.int .i64 x103006_1) := (blk_cell BK102.out 6).trans rfl
          have hcz10_7 : wr.cell? ⟨gb102, 7, none⟩ = some (.int .i64 x103007_1) := (blk_cell BK102.out 7).trans rfl
          have hcz10_8 : wr.cell? ⟨gb102, 8, none⟩ = some (.int .i64 x103008_1) := (blk_cell BK102.out 8).trans rfl
          have hcz10_9 : wr.cell? ⟨gb102, 9, none⟩ = some (.int .i64 (-1)) := (blk_cell BK102.out 9).trans rfl
          have hfz10_0 := blk_frozen BK102.out 0
          have hfz10_1 := blk_frozen BK102.out 1
          have hfz10_2 := blk_frozen BK102.out 2
          have hfz10_3 := blk_frozen BK102.out 3
          have hfz10_4 := blk_frozen BK102.out 4
          have hfz10_5 := blk_frozen BK102.out 5
          have hfz10_6 := blk_frozen BK102.out 6
          have hfz10_7 := blk_frozen BK102.out 7
          have hfz10_8 := blk_frozen BK102.out 8
          have hfz10_9 := blk_frozen BK102.out 9
          go_wp2
          go_roundg k1
          case measure => have := HK1.out; omega
          case rel => exact ⟨(wrap64 (0 + 1)), ((-1)), (x103005_1), (x103006_1), (x103007_1), (x103008_1), (by first | rfl | (simp; done) | (simp [*]; done) | kernel_rfl), H', ⟨by have := HK1.out; omega⟩, ⟨by (with_reducible repeat (first | refine blk_drewN ?_ _ | refine blk_drew ?_ | refine blk_alloc ?_ _)); refine blk_far ?_ NB101_102.out _; (with_reducible repeat (first | refine blk_drewN ?_ _ | refine blk_drew ?_ | refine blk_alloc ?_ _)); exact BK101.out⟩, ⟨by (with_reducible repeat (first | refine blk_drewN ?_ _ | refine blk_drew ?_ | refine blk_alloc ?_ _)); refine blk_put (cs := #[.int .i64 0, .int .i64 0, .int .i64 0, .int .u64 a0, .int .i64 x103004_1, .int .i64 x103005_1, .int .i64 x103006_1, .int .i64 x103007_1, .int .i64 x103008_1, .int .i64 (-1)]) ?_ 4 _ rfl; (with_reducible repeat (first | refine blk_drewN ?_ _ | refine blk_drew ?_ | refine blk_alloc ?_ _)); exact BK102.out⟩, ⟨by repeat (first | (with_reducible first | exact HB.out | apply below_alloc | apply pw_below_drewN | apply below_drew1 | refine below_set ?_ GE101.out | refine below_set ?_ GE102.out) | exact HB.out)⟩⟩
        · rw [if_neg c8] at H
          by_cases c11 : x7_1 = 1
          · subst c11
            have H1 : (cards_None.l0 k1 (wrap64 (1 + 1)) 0 0 0 a0 x103004_1 (-1) x103006_1 x103007_1 x103008_1 (-1)) = some (r1, r2, r3, r4, r5, r6, r7, r8, r9, r10) := by rw [if_pos rfl] at H; exact H
            clear H
            have H := H1
            clear H1
            have H' := Aside0.mk H
            clear H
            have hnb12 := NB102_101.out
            have hnc12 := NB101_102.out
            have hcz13_0 : wr.cell? ⟨gb102, 0, none⟩ = some (.int .i64 0) := (blk_cell BK102.out 0).trans rfl
            have hcz13_1 : wr.cell? ⟨gb102, 1, none⟩ = some (.int .i64 0) := (blk_cell BK102.out 1).trans rfl
            have hcz13_2 : wr.cell? ⟨gb102, 2, none⟩ = some (.int .i64 0) := (blk_cell BK102.out 2).trans rfl
            have hcz13_3 : wr.cell? ⟨gb102, 3, none⟩ = some (.int .u64 a0) := (blk_cell BK102.out 3).trans rfl
            have hcz13_4 : wr.cell? ⟨gb102, 4, none⟩ = some (.int .i64 x103004_1) := (blk_cell BK102.out 4).trans rfl
            have hcz13_5 : wr.cell? ⟨gb102, 5, none⟩ = some (.int .i64 x103005_1) := (blk_cell BK102.out 5).trans rfl
            have hcz13_6 : wr.cell? ⟨gb102, 6, none⟩ = some (.int .i64 x103006_1) := (blk_cell BK102.out 6).trans rfl
            have hcz13_7 : wr.cell? ⟨gb102, 7, none⟩ = some (.int .i64 x103007_1) := (blk_cell BK102.out 7).trans rfl
            have hcz13_8 : wr.cell? ⟨gb102, 8, none⟩ = some (.int .i64 x103008_1) := (blk_cell BK102.out 8).trans rfl
            have hcz13_9 : wr.cell? ⟨gb102, 9, none⟩ = some (.int .i64 (-1)) := (blk_cell BK102.out 9).trans rfl
            have hfz13_0 := blk_frozen BK102.out 0
            have hfz13_1 := blk_frozen BK102.out 1
            have hfz13_2 := blk_frozen BK102.out 2
            have hfz13_3 := blk_frozen BK102.out 3
            have hfz13_4 := blk_frozen BK102.out 4
            have hfz13_5 := blk_frozen BK102.out 5
            have hfz13_6 := blk_frozen BK102.out 6
            have hfz13_7 := blk_frozen BK102.out 7
            have hfz13_8 := blk_frozen BK102.out 8
            have hfz13_9 := blk_frozen BK102.out 9
            go_wp2
            go_roundg k1
            case measure => have := HK1.out; omega
            case rel => exact ⟨(wrap64 (1 + 1)), (x103004_1), ((-1)), (x103006_1), (x103007_1), (x103008_1), (by first | rfl | (simp; done) | (simp [*]; done) | kernel_rfl), H', ⟨by have := HK1.out; omega⟩, ⟨by (with_reducible repeat (first | refine blk_drewN ?_ _ | refine blk_drew ?_ | refine blk_alloc ?_ _)); refine blk_far ?_ NB101_102.out _; (with_reducible repeat (first | refine blk_drewN ?_ _ | refine blk_drew ?_ | refine blk_alloc ?_ _)); exact BK101.out⟩, ⟨by (with_reducible repeat (first | refine blk_drewN ?_ _ | refine blk_drew ?_ | refine blk_alloc ?_ _)); refine blk_put (cs := #[.int .i64 0, .int .i64 0, .int .i64 0, .int .u64 a0, .int .i64 x103004_1, .int .i64 x103005_1, .int .i64 x103006_1, .int .i64 x103007_1, .int .i64 x103008_1, .int .i64 (-1)]) ?_ 5 _ rfl; (with_reducible repeat (first | refine blk_drewN ?_ _ | refine blk_drew ?_ | refine blk_alloc ?_ _)); exact BK102.out⟩, ⟨by repeat (first | (with_reducible first | exact HB.out | apply below_alloc | apply pw_below_drewN | apply below_drew1 | refine below_set ?_ GE101.out | refine below_set ?_ GE102.out) | exact HB.out)⟩⟩
          · rw [if_neg c11] at H
            by_cases c14 : x7_1 = 2
            · subst c14
              have H1 : (cards_None.l0 k1 (wrap64 (2 + 1)) 0 0 0 a0 x103004_1 x103005_1 (-1) x103007_1 x103008_1 (-1)) = some (r1, r2, r3, r4, r5, r6, r7, r8, r9, r10) := by rw [if_pos rfl] at H; exact H
              clear H
              have H := H1
              clear H1
              have H' := Aside0.mk H
              clear H
              have hnb15 := NB102_101.out
              have hnc15 := NB101_102.out
              have hcz16_0 : wr.cell? ⟨gb102, 0, none⟩ = some (.int .i64 0) := (blk_cell BK102.out 0).trans rfl
              have hcz16_1 : wr.cell? ⟨gb102, 1, none⟩ = some (.int .i64 0) := (blk_cell BK102.out 1).trans rfl
              have hcz16_2 : wr.cell? ⟨gb102, 2, none⟩ = some (.int .i64 0) := (blk_cell BK102.out 2).trans rfl
              have hcz16_3 : wr.cell? ⟨gb102, 3, none⟩ = some (.int .u64 a0) := (blk_cell BK102.out 3).trans rfl
              have hcz16_4 : wr.cell? ⟨gb102, 4, none⟩ = some (.int .i64 x103004_1) := (blk_cell BK102.out 4).trans rfl
              have hcz16_5 : wr.cell? ⟨gb102, 5, none⟩ = some (.int .i64 x103005_1) := (blk_cell BK102.out 5).trans rfl
              have hcz16_6 : wr.cell? ⟨gb102, 6, none⟩ = some (.int .i64 x103006_1) := (blk_cell BK102.out 6).trans rfl
              have hcz16_7 : wr.cell? ⟨gb102, 7, none⟩ = some (.int .i64 x103007_1) := (blk_cell BK102.out 7).trans rfl
              have hcz16_8 : wr.cell? ⟨gb102, 8, none⟩ = some (.int .i64 x103008_1) := (blk_cell BK102.out 8).trans rfl
              have hcz16_9 : wr.cell? ⟨gb102, 9, none⟩ = some (.int .i64 (-1)) := (blk_cell BK102.out 9).trans rfl
              have hfz16_0 := blk_frozen BK102.out 0
              have hfz16_1 := blk_frozen BK102.out 1
              have hfz16_2 := blk_frozen BK102.out 2
              have hfz16_3 := blk_frozen BK102.out 3
              have hfz16_4 := blk_frozen BK102.out 4
              have hfz16_5 := blk_frozen BK102.out 5
              have hfz16_6 := blk_frozen BK102.out 6
              have hfz16_7 := blk_frozen BK102.out 7
              have hfz16_8 := blk_frozen BK102.out 8
              have hfz16_9 := blk_frozen BK102.out 9
              go_wp2
              go_roundg k1
              case measure => have := HK1.out; omega
              case rel => exact ⟨(wrap64 (2 + 1)), (x103004_1), (x103005_1), ((-1)), (x103007_1), (x103008_1), (by first | rfl | (simp; done) | (simp [*]; done) | kernel_rfl), H', ⟨by have := HK1.out; omega⟩, ⟨by (with_reducible repeat (first | refine blk_drewN ?_ _ | refine blk_drew ?_ | refine blk_alloc ?_ _)); refine blk_far ?_ NB101_102.out _; (with_reducible repeat (first | refine blk_drewN ?_ _ | refine blk_drew ?_ | refine blk_alloc ?_ _)); exact BK101.out⟩, ⟨by (with_reducible repeat (first | refine blk_drewN ?_ _ | refine blk_drew ?_ | refine blk_alloc ?_ _)); refine blk_put (cs := #[.int .i64 0, .int .i64 0, .int .i64 0, .int .u64 a0, .int .i64 x103004_1, .int .i64 x103005_1, .int .i64 x103006_1, .int .i64 x103007_1, .int .i64 x103008_1, .int .i64 (-1)]) ?_ 6 _ rfl; (with_reducible repeat (first | refine blk_drewN ?_ _ | refine blk_drew ?_ | refine blk_alloc ?_ _)); exact BK102.out⟩, ⟨by repeat (first | (with_reducible first | exact HB.out | apply below_alloc | apply pw_below_drewN | apply below_drew1 | refine below_set ?_ GE101.out | refine below_set ?_ GE102.out) | exact HB.out)⟩⟩
            · rw [if_neg c14] at H
              by_cases c17 : x7_1 = 3
              · subst c17
                have H1 : (cards_None.l0 k1 (wrap64 (3 + 1)) 0 0 0 a0 x103004_1 x103005_1 x103006_1 (-1) x103008_1 (-1)) = some (r1, r2, r3, r4, r5, r6, r7, r8, r9, r10) := by rw [if_pos rfl] at H; exact H
                clear H
                have H := H1
                clear H1
                have H' := Aside0.mk H
                clear H
                have hnb18 := NB102_101.out
                have hnc18 := NB101_102.out
                have hcz19_0 : wr.cell? ⟨gb102, 0, none⟩ = some (.int .i64 0) := (blk_cell BK102.out 0).trans rfl
                have hcz19_1 : wr.cell? ⟨gb102, 1, none⟩ = some (.int .i64 0) := (blk_cell BK102.out 1).trans rfl
                have hcz19_2 : wr.cell? ⟨gb102, 2, none⟩ = some (.int .i64 0) := (blk_cell BK102.out 2).trans rfl
                have hcz19_3 : wr.cell? ⟨gb102, 3, none⟩ = some (.int .u64 a0) := (blk_cell BK102.out 3).trans rfl
                have hcz19_4 : wr.cell? ⟨gb102, 4, none⟩ = some (.int .i64 x103004_1) := (blk_cell BK102.out 4).trans rfl
                have hcz19_5 : wr.cell? ⟨gb102, 5, none⟩ = some (.int .i64 x103005_1) := (blk_cell BK102.out 5).trans rfl
                have hcz19_6 : wr.cell? ⟨gb102, 6, none⟩ = some (.int .i64 x103006_1) := (blk_cell BK102.out 6).trans rfl
                have hcz19_7 : wr.cell? ⟨gb102, 7, none⟩ = some (.int .i64 x103007_1) := (blk_cell BK102.out 7).trans rfl
                have hcz19_8 : wr.cell? ⟨gb102, 8, none⟩ = some (.int .i64 x103008_1) := (blk_cell BK102.out 8).trans rfl
                have hcz19_9 : wr.cell? ⟨gb102, 9, none⟩ = some (.int .i64 (-1)) := (blk_cell BK102.out 9).trans rfl
                have hfz19_0 := blk_frozen BK102.out 0
                have hfz19_1 := blk_frozen BK102.out 1
                have hfz19_2 := blk_frozen BK102.out 2
                have hfz19_3 := blk_frozen BK102.out 3
                have hfz19_4 := blk_frozen BK102.out 4
                have hfz19_5 := blk_frozen BK102.out 5
                have hfz19_6 := blk_frozen BK102.out 6
                have hfz19_7 := blk_frozen BK102.out 7
                have hfz19_8 := blk_frozen BK102.out 8
                have hfz19_9 := blk_frozen BK102.out 9
                go_wp2
                go_roundg k1
                case measure => have := HK1.out; omega
                case rel => exact ⟨(wrap64 (3 + 1)), (x103004_1), (x103005_1), (x103006_1), ((-1)), (x103008_1), (by first | rfl | (simp; done) | (simp [*]; done) | kernel_rfl), H', ⟨by have := HK1.out; omega⟩, ⟨by (with_reducible repeat (first | refine blk_drewN ?_ _ | refine blk_drew ?_ | refine blk_alloc ?_ _)); refine blk_far ?_ NB101_102.out _; (with_reducible repeat (first | refine blk_drewN ?_ _ | refine blk_drew ?_ | refine blk_alloc ?_ _)); exact BK101.out⟩, ⟨by (with_reducible repeat (first | refine blk_drewN ?_ _ | refine blk_drew ?_ | refine blk_alloc ?_ _)); refine blk_put (cs := #[.int .i64 0, .int .i64 0, .int .i64 0, .int .u64 a0, .int .i64 x103004_1, .int .i64 x103005_1, .int .i64 x103006_1, .int .i64 x103007_1, .int .i64 x103008_1, .int .i64 (-1)]) ?_ 7 _ rfl; (with_reducible repeat (first | refine blk_drewN ?_ _ | refine blk_drew ?_ | refine blk_alloc ?_ _)); exact BK102.out⟩, ⟨by repeat (first | (with_reducible first | exact HB.out | apply below_alloc | apply pw_below_drewN | apply below_drew1 | refine below_set ?_ GE101.out | refine below_set ?_ GE102.out) | exact HB.out)⟩⟩
              · rw [if_neg c17] at H
                by_cases c20 : x7_1 = 4
                · subst c20
                  have H1 : (cards_None.l0 k1 (wrap64 (4 + 1)) 0 0 0 a0 x103004_1 x103005_1 x103006_1 x103007_1 (-1) (-1)) = some (r1, r2, r3, r4, r5, r6, r7, r8, r9, r10) := by rw [if_pos rfl] at H; exact H
                  clear H
                  have H := H1
                  clear H1
                  have H' := Aside0.mk H
                  clear H
                  have hnb21 := NB102_101.out
                  have hnc21 := NB101_102.out
                  have hcz22_0 : wr.cell? ⟨gb102, 0, none⟩ = some (.int .i64 0) := (blk_cell BK102.out 0).trans rfl
                  have hcz22_1 : wr.cell? ⟨gb102, 1, none⟩ = some (.int .i64 0) := (blk_cell BK102.out 1).trans rfl
                  have hcz22_2 : wr.cell? ⟨gb102, 2, none⟩ = some (.int .i64 0) := (blk_cell BK102.out 2).trans rfl
                  have hcz22_3 : wr.cell? ⟨gb102, 3, none⟩ = some (.int .u64 a0) := (blk_cell BK102.out 3).trans rfl
                  have hcz22_4 : wr.cell? ⟨gb102, 4, none⟩ = some (.int .i64 x103004_1) := (blk_cell BK102.out 4).trans rfl
                  have hcz22_5 : wr.cell? ⟨gb102, 5, none⟩ = some (.int .i64 x103005_1) := (blk_cell BK102.out 5).trans rfl
                  have hcz22_6 : wr.cell? ⟨gb102, 6, none⟩ = some (.int .i64 x103006_1) := (blk_cell BK102.out 6).trans rfl
                  have hcz22_7 : wr.cell? ⟨gb102, 7, none⟩ = some (.int .i64 x103007_1) := (blk_cell BK102.out 7).trans rfl
                  have hcz22_8 : wr.cell? ⟨gb102, 8, none⟩ = some (.int .i64 x103008_1) := (blk_cell BK102.out 8).trans rfl
                  have hcz22_9 : wr.cell? ⟨gb102, 9, none⟩ = some (.int .i64 (-1)) := (blk_cell BK102.out 9).trans rfl
                  have hfz22_0 := blk_frozen BK102.out 0
                  have hfz22_1 := blk_frozen BK102.out 1
                  have hfz22_2 := blk_frozen BK102.out 2
                  have hfz22_3 := blk_frozen BK102.out 3
                  have hfz22_4 := blk_frozen BK102.out 4
                  have hfz22_5 := blk_frozen BK102.out 5
                  have hfz22_6 := blk_frozen BK102.out 6
                  have hfz22_7 := blk_frozen BK102.out 7
                  have hfz22_8 := blk_frozen BK102.out 8
                  have hfz22_9 := blk_frozen BK102.out 9
                  go_wp2
                  go_roundg k1
                  case measure => have := HK1.out; omega
                  case rel => exact ⟨(wrap64 (4 + 1)), (x103004_1), (x103005_1), (x103006_1), (x103007_1), ((-1)), (by first | rfl | (simp; done) | (simp [*]; done) | kernel_rfl), H', ⟨by have := HK1.out; omega⟩, ⟨by (with_reducible repeat (first | refine blk_drewN ?_ _ | refine blk_drew ?_ | refine blk_alloc ?_ _)); refine blk_far ?_ NB101_102.out _; (with_reducible repeat (first | refine blk_drewN ?_ _ | refine blk_drew ?_ | refine blk_alloc ?_ _)); exact BK101.out⟩, ⟨by (with_reducible repeat (first | refine blk_drewN ?_ _ | refine blk_drew ?_ | refine blk_alloc ?_ _)); refine blk_put (cs := #[.int .i64 0, .int .i64 0, .int .i64 0, .int .u64 a0, .int .i64 x103004_1, .int .i64 x103005_1, .int .i64 x103006_1, .int .i64 x103007_1, .int .i64 x103008_1, .int .i64 (-1)]) ?_ 8 _ rfl; (with_reducible repeat (first | refine blk_drewN ?_ _ | refine blk_drew ?_ | refine blk_alloc ?_ _)); exact BK102.out⟩, ⟨by repeat (first | (with_reducible first | exact HB.out | apply below_alloc | apply pw_below_drewN | apply below_drew1 | refine below_set ?_ GE101.out | refine below_set ?_ GE102.out) | exact HB.out)⟩⟩
                · rw [if_neg c20] at H
                  exact absurd H (by simp)
      · rw [if_neg c7] at H
        have c7b0 : decide (x7_1 < 5) = false := decide_eq_false c7
        clear c7
        simp only [Option.some.injEq, Prod.mk.injEq] at H
        obtain ⟨rfl, rfl, rfl, rfl, rfl, rfl, rfl, rfl, rfl, rfl⟩ := H
        have hnb23 := NB102_101.out
        have hnc23 := NB101_102.out
        have hcz24_0 : wr.cell? ⟨gb102, 0, none⟩ = some (.int .i64 0) := (blk_cell BK102.out 0).trans rfl
        have hcz24_1 : wr.cell? ⟨gb102, 1, none⟩ = some (.int .i64 0) := (blk_cell BK102.out 1).trans rfl
        have hcz24_2 : wr.cell? ⟨gb102, 2, none⟩ = some (.int .i64 0) := (blk_cell BK102.out 2).trans rfl
        have hcz24_3 : wr.cell? ⟨gb102, 3, none⟩ = some (.int .u64 a0) := (blk_cell BK102.out 3).trans rfl
        have hcz24_4 : wr.cell? ⟨gb102, 4, none⟩ = some (.int .i64 x103004_1) := (blk_cell BK102.out 4).trans rfl
        have hcz24_5 : wr.cell? ⟨gb102, 5, none⟩ = some (.int .i64 x103005_1) := (blk_cell BK102.out 5).trans rfl
        have hcz24_6 : wr.cell? ⟨gb102, 6, none⟩ = some (.int .i64 x103006_1) := (blk_cell BK102.out 6).trans rfl
        have hcz24_7 : wr.cell? ⟨gb102, 7, none⟩ = some (.int .i64 x103007_1) := (blk_cell BK102.out 7).trans rfl
        have hcz24_8 : wr.cell? ⟨gb102, 8, none⟩ = some (.int .i64 x103008_1) := (blk_cell BK102.out 8).trans rfl
        have hcz24_9 : wr.cell? ⟨gb102, 9, none⟩ = some (.int .i64 (-1)) := (blk_cell BK102.out 9).trans rfl
        have hfz24_0 := blk_frozen BK102.out 0
        have hfz24_1 := blk_frozen BK102.out 1
        have hfz24_2 := blk_frozen BK102.out 2
        have hfz24_3 := blk_frozen BK102.out 3
        have hfz24_4 := blk_frozen BK102.out 4
        have hfz24_5 := blk_frozen BK102.out 5
        have hfz24_6 := blk_frozen BK102.out 6
        have hfz24_7 := blk_frozen BK102.out 7
        have hfz24_8 := blk_frozen BK102.out 8
        have hfz24_9 := blk_frozen BK102.out 9
        have hcz25_0 : wr.cell? ⟨gb101, 0, none⟩ = some (.int .i64 0) := (blk_cell BK101.out 0).trans rfl
        have hcz25_1 : wr.cell? ⟨gb101, 1, none⟩ = some (.int .i64 0) := (blk_cell BK101.out 1).trans rfl
        have hcz25_2 : wr.cell? ⟨gb101, 2, none⟩ = some (.int .i64 0) := (blk_cell BK101.out 2).trans rfl
        have hcz25_3 : wr.cell? ⟨gb101, 3, none⟩ = some (.int .u64 0) := (blk_cell BK101.out 3).trans rfl
        have hcz25_4 : wr.cell? ⟨gb101, 4, none⟩ = some (.int .i64 0) := (blk_cell BK101.out 4).trans rfl
        have hcz25_5 : wr.cell? ⟨gb101, 5, none⟩ = some (.int .i64 0) := (blk_cell BK101.out 5).trans rfl
        have hcz25_6 : wr.cell? ⟨gb101, 6, none⟩ = some (.int .i64 0) := (blk_cell BK101.out 6).trans rfl
        have hcz25_7 : wr.cell? ⟨gb101, 7, none⟩ = some (.int .i64 0) := (blk_cell BK101.out 7).trans rfl
        have hcz25_8 : wr.cell? ⟨gb101, 8, none⟩ = some (.int .i64 0) := (blk_cell BK101.out 8).trans rfl
        have hcz25_9 : wr.cell? ⟨gb101, 9, none⟩ = some (.int .i64 0) := (blk_cell BK101.out 9).trans rfl
        have hfz25_0 := blk_frozen BK101.out 0
        have hfz25_1 := blk_frozen BK101.out 1
        have hfz25_2 := blk_frozen BK101.out 2
        have hfz25_3 := blk_frozen BK101.out 3
        have hfz25_4 := blk_frozen BK101.out 4
        have hfz25_5 := blk_frozen BK101.out 5
        have hfz25_6 := blk_frozen BK101.out 6
        have hfz25_7 := blk_frozen BK101.out 7
        have hfz25_8 := blk_frozen BK101.out 8
        have hfz25_9 := blk_frozen BK101.out 9
        go_wp2_with (first | ((with_reducible refine gate_store (t := 25) (p := 2) rfl ?_); refine store_event (t := 25) (p := 2) (v := ?vo_w26) (w1 := ((((((((((wr.setCell ⟨gb101, 0, none⟩ (.int .i64 0)).setCell ⟨gb101, 1, none⟩ (.int .i64 0)).setCell ⟨gb101, 2, none⟩ (.int .i64 0)).setCell ⟨gb101, 3, none⟩ (.int .u64 a0)).setCell ⟨gb101, 4, none⟩ (.int .i64 x103004_1)).setCell ⟨gb101, 5, none⟩ (.int .i64 x103005_1)).setCell ⟨gb101, 6, none⟩ (.int .i64 x103006_1)).setCell ⟨gb101, 7, none⟩ (.int .i64 x103007_1)).setCell ⟨gb101, 8, none⟩ (.int .i64 x103008_1)).setCell ⟨gb101, 9, none⟩ (.int .i64 (-1)))) ?hg ?ho ?hn ?hr ?_; (case ho => rfl); (case hg => rfl); (case hn => rfl); (case hr => exact pr_store_exec rfl rfl rfl (run_store_run (P := Try.prog) (o := 0) (cur := #[.int .i64 0, .int .i64 0, .int .i64 0, .int .u64 0, .int .i64 0, .int .i64 0, .int .i64 0, .int .i64 0, .int .i64 0, .int .i64 0]) 25 (.agg #[.int .i64 0, .int .i64 0, .int .i64 0, .int .u64 a0, .int .i64 x103004_1, .int .i64 x103005_1, .int .i64 x103006_1, .int .i64 x103007_1, .int .i64 x103008_1, .int .i64 (-1)]) [.int .i64 0, .int .i64 0, .int .i64 0, .int .u64 a0, .int .i64 x103004_1, .int .i64 x103005_1, .int .i64 x103006_1, .int .i64 x103007_1, .int .i64 x103008_1, .int .i64 (-1)] (show _ = some (Obj.cells #[.int .i64 0, .int .i64 0, .int .i64 0, .int .u64 0, .int .i64 0, .int .i64 0, .int .i64 0, .int .i64 0, .int .i64 0, .int .i64 0] 25 (0, 0)) from (by (with_reducible repeat (first | refine blk_drewN ?_ _ | refine blk_drew ?_ | refine blk_alloc ?_ _)); exact BK101.out)) rfl (by kernel_rfl) (show 10 ≤ 10 by decide) (by intro q_ hq_; simp only [List.mem_cons, List.not_mem_nil, or_false] at hq_; rcases hq_ with rfl | rfl | rfl | rfl | rfl | rfl | rfl | rfl | rfl | rfl <;> rfl))); intro w26 hw; have n0_ : Aside0 (w26.heap[gb101]? = some (.cells #[.int .i64 0, .int .i64 0, .int .i64 0, .int .u64 a0, .int .i64 x103004_1, .int .i64 x103005_1, .int .i64 x103006_1, .int .i64 x103007_1, .int .i64 x103008_1, .int .i64 (-1)] 25 (0, 0))) := ⟨(by rw [hw]; exact (by (with_reducible repeat (first | refine blk_drewN ?_ _ | refine blk_drew ?_ | refine blk_alloc ?_ _)); refine blk_put (cs := #[.int .i64 0, .int .i64 0, .int .i64 0, .int .u64 a0, .int .i64 x103004_1, .int .i64 x103005_1, .int .i64 x103006_1, .int .i64 x103007_1, .int .i64 x103008_1, .int .i64 0]) ?_ 9 _ rfl; (with_reducible repeat (first | refine blk_drewN ?_ _ | refine blk_drew ?_ | refine blk_alloc ?_ _)); refine blk_put (cs := #[.int .i64 0, .int .i64 0, .int .i64 0, .int .u64 a0, .int .i64 x103004_1, .int .i64 x103005_1, .int .i64 x103006_1, .int .i64 x103007_1, .int .i64 0, .int .i64 0]) ?_ 8 _ rfl; (with_reducible repeat (first | refine blk_drewN ?_ _ | refine blk_drew ?_ | refine blk_alloc ?_ _)); refine blk_put (cs := #[.int .i64 0, .int .i64 0, .int .i64 0, .int .u64 a0, .int .i64 x103004_1, .int .i64 x103005_1, .int .i64 x103006_1, .int .i64 0, .int .i64 0, .int .i64 0]) ?_ 7 _ rfl; (with_reducible repeat (first | refine blk_drewN ?_ _ | refine blk_drew ?_ | refine blk_alloc ?_ _)); refine blk_put (cs := #[.int .i64 0, .int .i64 0, .int .i64 0, .int .u64 a0, .int .i64 x103004_1, .int .i64 x103005_1, .int .i64 0, .int .i64 0, .int .i64 0, .int .i64 0]) ?_ 6 _ rfl; (with_reducible repeat (first | refine blk_drewN ?_ _ | refine blk_drew ?_ | refine blk_alloc ?_ _)); refine blk_put (cs := #[.int .i64 0, .int .i64 0, .int .i64 0, .int .u64 a0, .int .i64 x103004_1, .int .i64 0, .int .i64 0, .int .i64 0, .int .i64 0, .int .i64 0]) ?_ 5 _ rfl; (with_reducible repeat (first | refine blk_drewN ?_ _ | refine blk_drew ?_ | refine blk_alloc ?_ _)); refine blk_put (cs := #[.int .i64 0, .int .i64 0, .int .i64 0, .int .u64 a0, .int .i64 0, .int .i64 0, .int .i64 0, .int .i64 0, .int .i64 0, .int .i64 0]) ?_ 4 _ rfl; (with_reducible repeat (first | refine blk_drewN ?_ _ | refine blk_drew ?_ | refine blk_alloc ?_ _)); refine blk_put (cs := #[.int .i64 0, .int .i64 0, .int .i64 0, .int .u64 0, .int .i64 0, .int .i64 0, .int .i64 0, .int .i64 0, .int .i64 0, .int .i64 0]) ?_ 3 _ rfl; (with_reducible repeat (first | refine blk_drewN ?_ _ | refine blk_drew ?_ | refine blk_alloc ?_ _)); refine blk_put (cs := #[.int .i64 0, .int .i64 0, .int .i64 0, .int .u64 0, .int .i64 0, .int .i64 0, .int .i64 0, .int .i64 0, .int .i64 0, .int .i64 0]) ?_ 2 _ rfl; (with_reducible repeat (first | refine blk_drewN ?_ _ | refine blk_drew ?_ | refine blk_alloc ?_ _)); refine blk_put (cs := #[.int .i64 0, .int .i64 0, .int .i64 0, .int .u64 0, .int .i64 0, .int .i64 0, .int .i64 0, .int .i64 0, .int .i64 0, .int .i64 0]) ?_ 1 _ rfl; (with_reducible repeat (first | refine blk_drewN ?_ _ | refine blk_drew ?_ | refine blk_alloc ?_ _)); refine blk_put (cs := #[.int .i64 0, .int .i64 0, .int .i64 0, .int .u64 0, .int .i64 0, .int .i64 0, .int .i64 0, .int .i64 0, .int .i64 0, .int .i64 0]) ?_ 0 _ rfl; (with_reducible repeat (first | refine blk_drewN ?_ _ | refine blk_drew ?_ | refine blk_alloc ?_ _)); exact BK101.out))⟩; have n1_ : Aside0 (w26.heap[gb102]? = some (.cells #[.int .i64 0, .int .i64 0, .int .i64 0, .int .u64 a0, .int .i64 x103004_1, .int .i64 x103005_1, .int .i64 x103006_1, .int .i64 x103007_1, .int .i64 x103008_1, .int .i64 (-1)] 25 (0, 0))) := ⟨(by rw [hw]; exact (by (with_reducible repeat (first | refine blk_drewN ?_ _ | refine blk_drew ?_ | refine blk_alloc ?_ _)); refine blk_far ?_ NB102_101.out _; (with_reducible repeat (first | refine blk_drewN ?_ _ | refine blk_drew ?_ | refine blk_alloc ?_ _)); refine blk_far ?_ NB102_101.out _; (with_reducible repeat (first | refine blk_drewN ?_ _ | refine blk_drew ?_ | refine blk_alloc ?_ _)); refine blk_far ?_ NB102_101.out _; (with_reducible repeat (first | refine blk_drewN ?_ _ | refine blk_drew ?_ | refine blk_alloc ?_ _)); refine blk_far ?_ NB102_101.out _; (with_reducible repeat (first | refine blk_drewN ?_ _ | refine blk_drew ?_ | refine blk_alloc ?_ _)); refine blk_far ?_ NB102_101.out _; (with_reducible repeat (first | refine blk_drewN ?_ _ | refine blk_drew ?_ | refine blk_alloc ?_ _)); refine blk_far ?_ NB102_101.out _; (with_reducible repeat (first | refine blk_drewN ?_ _ | refine blk_drew ?_ | refine blk_alloc ?_ _)); refine blk_far ?_ NB102_101.out _; (with_reducible repeat (first | refine blk_drewN ?_ _ | refine blk_drew ?_ | refine blk_alloc ?_ _)); refine blk_far ?_ NB102_101.out _; (with_reducible repeat (first | refine blk_drewN ?_ _ | refine blk_drew ?_ | refine blk_alloc ?_ _)); refine blk_far ?_ NB102_101.out _; (with_reducible repeat (first | refine blk_drewN ?_ _ | refine blk_drew ?_ | refine blk_alloc ?_ _)); refine blk_far ?_ NB102_101.out _; (with_reducible repeat (first | refine blk_drewN ?_ _ | refine blk_drew ?_ | refine blk_alloc ?_ _)); exact BK102.out))⟩; have n2_ : Aside0 (Below w.heap.size w w26) := ⟨(by rw [hw]; exact (by repeat (first | (with_reducible first | exact HB.out | apply below_alloc | apply pw_below_drewN | apply below_drew1 | refine below_set ?_ GE101.out | refine below_set ?_ GE102.out) | exact HB.out)))⟩; clear hw; clear BK101; clear BK102; clear HB; have BK101 := n0_; have BK102 := n1_; have HB := n2_; clear n0_ n1_ n2_))
        refine bodyPost_ret (results_cell_row rfl _ _ gb101 25 #[.int .i64 0, .int .i64 0, .int .i64 0, .int .u64 a0, .int .i64 x103004_1, .int .i64 x103005_1, .int .i64 x103006_1, .int .i64 x103007_1, .int .i64 x103008_1, .int .i64 (-1)] (0, 0) _ rfl (by (with_reducible repeat (first | refine blk_drewN ?_ _ | refine blk_drew ?_ | refine blk_alloc ?_ _)); exact BK101.out) Try.underlying25 rfl (by kernel_rfl)) rfl ?_
        exact ⟨by first | rfl | (simp [errW_none, errW_some] <;> rfl) | (simp [*, errW_none, errW_some] <;> rfl), by repeat (first | (with_reducible first | exact HB.out | apply below_alloc | apply pw_below_drewN | apply below_drew1 | refine below_set ?_ GE101.out | refine below_set ?_ GE102.out) | exact HB.out)⟩

/-! ### cards_odd: function 23 -/
def cards_odd.f (a0 : Int) : Option (Bool) := if a0 < (-1) then (some true) else (some (decide (a0 ≥ 96)))
set_option maxHeartbeats 8000000 in
set_option maxRecDepth 100000 in
theorem cards_odd.calls (a0 : Int) (r : Bool) (w : World) (h : cards_odd.f a0 = some r) :
    Calls Try.prog 23 #[.int .i64 a0] w fun e w' => e = .returned (.bool r) ∧ Drawn0 w w' := by
  have H : (if a0 < (-1) then (some true) else (some (decide (a0 ≥ 96)))) = some r := h
  clear h
  by_cases c2 : a0 < (-1)
  · rw [if_pos c2] at H
    have c2b0 : decide (a0 < (-1)) = true := decide_eq_true c2
    clear c2
    obtain rfl := Option.some.inj H
    go_enter Try.func23, Try.ntmps23
    go_wp2
    go_ret
    exact ⟨by first | rfl | (simp; done) | (simp [*]; done), by repeat (first | exact Drawn0.refl _ | apply Drawn0.step)⟩
  · rw [if_neg c2] at H
    have c2b0 : decide (a0 < (-1)) = false := decide_eq_false c2
    clear c2
    obtain rfl := Option.some.inj H
    go_enter Try.func23, Try.ntmps23
    go_wp2
    go_ret
    exact ⟨by first | rfl | (simp; done) | (simp [*]; done), by repeat (first | exact Drawn0.refl _ | apply Drawn0.step)⟩

end Go.Proofs.Ytdcmahndbmonbaa.Print
