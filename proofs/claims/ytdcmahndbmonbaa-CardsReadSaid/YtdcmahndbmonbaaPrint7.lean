import Derived.Test.YtdcmahndbmonbaaPrint0
import Derived.Test.YtdcmahndbmonbaaPrint1
namespace Go.Proofs.Ytdcmahndbmonbaa.Print
open Go.RowKit Go.Proofs.YtdcmahndbmonbaaW.PrintWords Go.Proofs.YtdcmahndbmonbaaW.PrintLast Go.Proofs.YtdcmahndbmonbaaW.PrintMore
attribute [local go_sem] max2_int min2_int max_two min_two max_three min_three max_four min_four   -- for this text's walks alone
set_option linter.unusedVariables false
set_option linter.unusedSimpArgs false

attribute [local go_sem high] eqA25
/-! ### escritoireref06_None: function 19 -/
def escritoireref06_None.f (a0 : Int) : Option (Int × Int × Int × Int × Int × Int × Int × Int × Int × Int) := some (0, 0, 0, a0, (-1), (-1), (-1), (-1), (-1), (-1))
set_option maxHeartbeats 8000000 in
set_option maxRecDepth 100000 in
theorem escritoireref06_None.calls (a0 : Int) (r1 : Int) (r2 : Int) (r3 : Int) (r4 : Int) (r5 : Int) (r6 : Int) (r7 : Int) (r8 : Int) (r9 : Int) (r10 : Int) (w : World) (h : escritoireref06_None.f a0 = some (r1, r2, r3, r4, r5, r6, r7, r8, r9, r10)) :
    Calls Try.prog 19 #[.int .u64 a0] w fun e w' => e = .returned (.agg #[.int .i64 r1, .int .i64 r2, .int .i64 r3, .int .u64 r4, .int .i64 r5, .int .i64 r6, .int .i64 r7, .int .i64 r8, .int .i64 r9, .int .i64 r10]) ∧ Below w.heap.size w w' := by
  have hu25 := Try.underlying25
  have hu23 := Try.underlying23
  have HB := Aside0.mk (Below.refl w.heap.size w)
  have H : (some (0, 0, 0, a0, (-1), (-1), (-1), (-1), (-1), (-1))) = some (r1, r2, r3, r4, r5, r6, r7, r8, r9, r10) := h
  clear h
  simp only [Option.some.injEq, Prod.mk.injEq] at H
  obtain ⟨rfl, rfl, rfl, rfl, rfl, rfl, rfl, rfl, rfl, rfl⟩ := H
  go_enter Try.func19, Try.ntmps19
  go_wp2_with (first | ((with_reducible refine gate_dst (N := 2) rfl ?_); refine box_event ?hg (N := 2) ?hd (cs := #[.int .i64 0, .int .i64 0, .int .i64 0, .int .u64 0, .int .i64 0, .int .i64 0, .int .i64 0, .int .i64 0, .int .i64 0, .int .i64 0]) (t := 25) ?hr ?_; (case hd => rfl); (case hg => rfl); (case hr => first | (go_simp; done) | (go_simp; rfl)); intro gb191 hg w2 hbox hb; have n0_ := Aside0.mk (below_step (by repeat (first | (with_reducible first | exact HB.out | apply below_alloc | apply pw_below_drewN | apply below_drew1) | exact HB.out)) hb); have n1_ := Aside0.mk (hbox); have n2_ := Aside0.mk ((by rw [hg]; exact (below_size (by repeat (first | (with_reducible first | exact HB.out | apply below_alloc | apply pw_below_drewN | apply below_drew1) | exact HB.out))) : w.heap.size ≤ gb191)); have n3_ := Aside0.mk ((by rw [hg]; exact (below_size (by repeat (first | (with_reducible first | exact HB.out | apply below_alloc | apply pw_below_drewN | apply below_drew1) | exact HB.out))) : w.heap.size ≤ gb191)); clear HB; have HB := n0_; have BK191 := n1_; have GW191 := n2_; have GE191 := n3_; clear n0_ n1_ n2_ n3_; clear hb hbox hg; have hcz3_0 : w2.cell? ⟨gb191, 0, none⟩ = some (.int .i64 0) := (blk_cell BK191.out 0).trans rfl; have hcz3_1 : w2.cell? ⟨gb191, 1, none⟩ = some (.int .i64 0) := (blk_cell BK191.out 1).trans rfl; have hcz3_2 : w2.cell? ⟨gb191, 2, none⟩ = some (.int .i64 0) := (blk_cell BK191.out 2).trans rfl; have hcz3_3 : w2.cell? ⟨gb191, 3, none⟩ = some (.int .u64 0) := (blk_cell BK191.out 3).trans rfl; have hcz3_4 : w2.cell? ⟨gb191, 4, none⟩ = some (.int .i64 0) := (blk_cell BK191.out 4).trans rfl; have hcz3_5 : w2.cell? ⟨gb191, 5, none⟩ = some (.int .i64 0) := (blk_cell BK191.out 5).trans rfl; have hcz3_6 : w2.cell? ⟨gb191, 6, none⟩ = some (.int .i64 0) := (blk_cell BK191.out 6).trans rfl; have hcz3_7 : w2.cell? ⟨gb191, 7, none⟩ = some (.int .i64 0) := (blk_cell BK191.out 7).trans rfl; have hcz3_8 : w2.cell? ⟨gb191, 8, none⟩ = some (.int .i64 0) := (blk_cell BK191.out 8).trans rfl; have hcz3_9 : w2.cell? ⟨gb191, 9, none⟩ = some (.int .i64 0) := (blk_cell BK191.out 9).trans rfl; have hfz3_0 := blk_frozen BK191.out 0; have hfz3_1 := blk_frozen BK191.out 1; have hfz3_2 := blk_frozen BK191.out 2; have hfz3_3 := blk_frozen BK191.out 3; have hfz3_4 := blk_frozen BK191.out 4; have hfz3_5 := blk_frozen BK191.out 5; have hfz3_6 := blk_frozen BK191.out 6; have hfz3_7 := blk_frozen BK191.out 7; have hfz3_8 := blk_frozen BK191.out 8; have hfz3_9 := blk_frozen BK191.out 9) | ((with_reducible refine gate_store (t := 25) (p := 2) rfl ?_); refine store_event (t := 25) (p := 2) (v := ?vo_w4) (w1 := ((((((((((w2.setCell ⟨gb191, 0, none⟩ (.int .i64 0)).setCell ⟨gb191, 1, none⟩ (.int .i64 0)).setCell ⟨gb191, 2, none⟩ (.int .i64 0)).setCell ⟨gb191, 3, none⟩ (.int .u64 a0)).setCell ⟨gb191, 4, none⟩ (.int .i64 (-1))).setCell ⟨gb191, 5, none⟩ (.int .i64 (-1))).setCell ⟨gb191, 6, none⟩ (.int .i64 (-1))).setCell ⟨gb191, 7, none⟩ (.int .i64 (-1))).setCell ⟨gb191, 8, none⟩ (.int .i64 (-1))).setCell ⟨gb191, 9, none⟩ (.int .i64 (-1)))) ?hg ?ho ?hn ?hr ?_; (case ho => rfl); (case hg => rfl); (case hn => rfl); (case hr => exact pr_store_exec rfl rfl rfl (run_store_run (P := Try.prog) (o := 0) (cur := #[.int .i64 0, .int .i64 0, .int .i64 0, .int .u64 0, .int .i64 0, .int .i64 0, .int .i64 0, .int .i64 0, .int .i64 0, .int .i64 0]) 25 (.agg #[.int .i64 0, .int .i64 0, .int .i64 0, .int .u64 a0, .int .i64 (-1), .int .i64 (-1), .int .i64 (-1), .int .i64 (-1), .int .i64 (-1), .int .i64 (-1)]) [.int .i64 0, .int .i64 0, .int .i64 0, .int .u64 a0, .int .i64 (-1), .int .i64 (-1), .int .i64 (-1), .int .i64 (-1), .int .i64 (-1), .int .i64 (-1)] (show _ = some (Obj.cells #[.int .i64 0, .int .i64 0, .int .i64 0, .int .u64 0, .int .i64 0, .int .i64 0, .int .i64 0, .int .i64 0, .int .i64 0, .int .i64 0] 25 (0, 0)) from (by (with_reducible repeat (first | refine blk_drewN ?_ _ | refine blk_drew ?_ | refine blk_alloc ?_ _)); exact BK191.out)) rfl (by kernel_rfl) (show 10 ≤ 10 by decide) (by intro q_ hq_; simp only [List.mem_cons, List.not_mem_nil, or_false] at hq_; rcases hq_ with rfl | rfl | rfl | rfl | rfl | rfl | rfl | rfl | rfl | rfl <;> rfl))); intro w4 hw; have n0_ : Aside0 (w4.heap[gb191]? = some (.cells #[.int .i64 0, .int .i64 0, .int .i64 0, .int .u64 a0, .int .i64 (-1), .int .i64 (-1), .int .i64 (-1), .int .i64 (-1), .int .i64 (-1), .int .i64 (-1)] 25 (0, 0))) := ⟨(by rw [hw]; exact (by (with_reducible repeat (first | refine blk_drewN ?_ _ | refine blk_drew ?_ | refine blk_alloc ?_ _)); refine blk_put (cs := #[.int .i64 0, .int .i64 0, .int .i64 0, .int .u64 a0, .int .i64 (-1), .int .i64 (-1), .int .i64 (-1), .int .i64 (-1), .int .i64 (-1), .int .i64 0]) ?_ 9 _ rfl; (with_reducible repeat (first | refine blk_drewN ?_ _ | refine blk_drew ?_ | refine blk_alloc ?_ _)); refine blk_put (cs := #[.int .i64 0, .int .i64 0, .int .i64 0, .int .u64 a0, .int .i64 (-1), .int .i64 (-1), .int .i64 (-1), .int .i64 (-1), .int .i64 0, .int .i64 0]) ?_ 8 _ rfl; (with_reducible repeat (first | refine blk_drewN ?_ _ | refine blk_drew ?_ | refine blk_alloc ?_ _)); refine blk_put (cs := #[.int .i64 0, .int .i64 0, .int .i64 0, .int .u64 a0, .int .i64 (-1), .int .i64 (-1), .int .i64 (-1), .int .i64 0, .int .i64 0, .int .i64 0]) ?_ 7 _ rfl; (with_reducible repeat (first | refine blk_drewN ?_ _ | refine blk_drew ?_ | refine blk_alloc ?_ _)); refine blk_put (cs := #[.int .i64 0, .int .i64 0, .int .i64 0, .int .u64 a0, .int .i64 (-1), .int .i64 (-1), .int .i64 0, .int .i64 0, .int .i64 0, .int .i64 0]) ?_ 6 _ rfl; (with_reducible repeat (first | refine blk_drewN ?_ _ | refine blk_drew ?_ | refine blk_alloc ?_ _)); refine blk_put (cs := #[.int .i64 0, .int .i64 0, .int .i64 0, .int .u64 a0, .int .i64 (-1), .int .i64 0, .int .i64 0, .int .i64 0, .int .i64 0, .int .i64 0]) ?_ 5 _ rfl; (with_reducible repeat (first | refine blk_drewN ?_ _ | refine blk_drew ?_ | refine blk_alloc ?_ _)); refine blk_put (cs := #[.int .i64 0, .int .i64 0, .int .i64 0, .int .u64 a0, .int .i64 0, .int .i64 0, .int .i64 0, .int .i64 0, .int .i64 0, .int .i64 0]) ?_ 4 _ rfl; (with_reducible repeat (first | refine blk_drewN ?_ _ | refine blk_drew ?_ | refine blk_alloc ?_ _)); refine blk_put (cs := #[.int .i64 0, .int .i64 0, .int .i64 0, .int .u64 0, .int .i64 0, .int .i64 0, .int .i64 0, .int .i64 0, .int .i64 0, .int .i64 0]) ?_ 3 _ rfl; (with_reducible repeat (first | refine blk_drewN ?_ _ | refine blk_drew ?_ | refine blk_alloc ?_ _)); refine blk_put (cs := #[.int .i64 0, .int .i64 0, .int .i64 0, .int .u64 0, .int .i64 0, .int .i64 0, .int .i64 0, .int .i64 0, .int .i64 0, .int .i64 0]) ?_ 2 _ rfl; (with_reducible repeat (first | refine blk_drewN ?_ _ | refine blk_drew ?_ | refine blk_alloc ?_ _)); refine blk_put (cs := #[.int .i64 0, .int .i64 0, .int .i64 0, .int .u64 0, .int .i64 0, .int .i64 0, .int .i64 0, .int .i64 0, .int .i64 0, .int .i64 0]) ?_ 1 _ rfl; (with_reducible repeat (first | refine blk_drewN ?_ _ | refine blk_drew ?_ | refine blk_alloc ?_ _)); refine blk_put (cs := #[.int .i64 0, .int .i64 0, .int .i64 0, .int .u64 0, .int .i64 0, .int .i64 0, .int .i64 0, .int .i64 0, .int .i64 0, .int .i64 0]) ?_ 0 _ rfl; (with_reducible repeat (first | refine blk_drewN ?_ _ | refine blk_drew ?_ | refine blk_alloc ?_ _)); exact BK191.out))⟩; have n1_ : Aside0 (Below w.heap.size w w4) := ⟨(by rw [hw]; exact (by repeat (first | (with_reducible first | exact HB.out | apply below_alloc | apply pw_below_drewN | apply below_drew1 | refine below_set ?_ GE191.out) | exact HB.out)))⟩; clear hw; clear BK191; clear HB; have BK191 := n0_; have HB := n1_; clear n0_ n1_))
  refine bodyPost_ret (results_cell_row rfl _ _ gb191 25 #[.int .i64 0, .int .i64 0, .int .i64 0, .int .u64 a0, .int .i64 (-1), .int .i64 (-1), .int .i64 (-1), .int .i64 (-1), .int .i64 (-1), .int .i64 (-1)] (0, 0) _ rfl (by (with_reducible repeat (first | refine blk_drewN ?_ _ | refine blk_drew ?_ | refine blk_alloc ?_ _)); exact BK191.out) Try.underlying25 rfl (by kernel_rfl)) rfl ?_
  exact ⟨by first | rfl | (simp [errW_none, errW_some] <;> rfl) | (simp [*, errW_none, errW_some] <;> rfl), by repeat (first | (with_reducible first | exact HB.out | apply below_alloc | apply pw_below_drewN | apply below_drew1 | refine below_set ?_ GE191.out) | exact HB.out)⟩

/-! ### escritoireref06_block: function 25 -/
def escritoireref06_block.f (a0 : Int) : Option (Bool) := if a0 ≥ (-1) then (some (decide (a0 < 96))) else (some false)
set_option maxHeartbeats 8000000 in
set_option maxRecDepth 100000 in
theorem escritoireref06_block.calls (a0 : Int) (r : Bool) (w : World) (h : escritoireref06_block.f a0 = some r) :
    Calls Try.prog 25 #[.int .i64 a0] w fun e w' => e = .returned (.bool r) ∧ Drawn0 w w' := by
  have H : (if a0 ≥ (-1) then (some (decide (a0 < 96))) else (some false)) = some r := h
  clear h
  by_cases c2 : a0 ≥ (-1)
  · rw [if_pos c2] at H
    have c2b0 : decide ((-1) ≤ a0) = true := decide_eq_true c2
    clear c2
    obtain rfl := Option.some.inj H
    go_enter Try.func25, Try.ntmps25
    go_wp2
    go_ret
    exact ⟨by first | rfl | (simp; done) | (simp [*]; done), by repeat (first | exact Drawn0.refl _ | apply Drawn0.step)⟩
  · rw [if_neg c2] at H
    have c2b0 : decide ((-1) ≤ a0) = false := decide_eq_false c2
    clear c2
    obtain rfl := Option.some.inj H
    go_enter Try.func25, Try.ntmps25
    go_wp2
    go_ret
    exact ⟨by first | rfl | (simp; done) | (simp [*]; done), by repeat (first | exact Drawn0.refl _ | apply Drawn0.step)⟩

/-! ### escritoireref06_Right: function 13 -/
def escritoireref06_Right.l0 : Nat → Int → Int → Int → Int → Int → Int → Int → Int → Int → Int → Int → Option (Bool)
  | 0, _, _, _, _, _, _, _, _, _, _, _ => none
  | k + 1, x3, x193000, x193001, x193002, x193003, x193004, x193005, x193006, x193007, x193008, x193009 => if x3 < 5 then (if x3 = 0 then ((escritoireref06_block.f x193004).bind fun t203 => (if t203 = true then (escritoireref06_Right.l0 k (wrap64 (x3 + 1)) x193000 x193001 x193002 x193003 x193004 x193005 x193006 x193007 x193008 x193009) else (some false))) else (if x3 = 1 then ((escritoireref06_block.f x193005).bind fun t204 => (if t204 = true then (escritoireref06_Right.l0 k (wrap64 (x3 + 1)) x193000 x193001 x193002 x193003 x193004 x193005 x193006 x193007 x193008 x193009) else (some false))) else (if x3 = 2 then ((escritoireref06_block.f x193006).bind fun t205 => (if t205 = true then (escritoireref06_Right.l0 k (wrap64 (x3 + 1)) x193000 x193001 x193002 x193003 x193004 x193005 x193006 x193007 x193008 x193009) else (some false))) else (if x3 = 3 then ((escritoireref06_block.f x193007).bind fun t206 => (if t206 = true then (escritoireref06_Right.l0 k (wrap64 (x3 + 1)) x193000 x193001 x193002 x193003 x193004 x193005 x193006 x193007 x193008 x193009) else (some false))) else (if x3 = 4 then ((escritoireref06_block.f x193008).bind fun t207 => (if t207 = true then (escritoireref06_Right.l0 k (wrap64 (x3 + 1)) x193000 x193001 x193002 x193003 x193004 x193005 x193006 x193007 x193008 x193009) else (some false))) else (none)))))) else (if x193000 ≥ 1 then (if x193000 ≤ 3 then (if x193001 ≥ 0 then (if x193001 ≤ 255 then (if x193002 ≥ 0 then (if x193002 ≤ 2688 then ((escritoireref06_block.f x193009).bind fun t208 => (some t208)) else (some false)) else (some false)) else (some false)) else (some false)) else (some false)) else (some false))
def escritoireref06_Right.f (k : Nat) (a0_0 : Int) (a0_1 : Int) (a0_2 : Int) (a0_3 : Int) (a0_4 : Int) (a0_5 : Int) (a0_6 : Int) (a0_7 : Int) (a0_8 : Int) (a0_9 : Int) : Option (Bool) := if a0_0 = 0 then ((escritoireref06_None.f a0_3).bind fun bt193 => (some (a0_0 == bt193.1 && (a0_1 == bt193.2.1 && (a0_2 == bt193.2.2.1 && (a0_3 == bt193.2.2.2.1 && ((a0_4 == bt193.2.2.2.2.1 && (a0_5 == bt193.2.2.2.2.2.1 && (a0_6 == bt193.2.2.2.2.2.2.1 && (a0_7 == bt193.2.2.2.2.2.2.2.1 && (a0_8 == bt193.2.2.2.2.2.2.2.2.1))))) && (a0_9 == bt193.2.2.2.2.2.2.2.2.2)))))))) else (escritoireref06_Right.l0 k 0 a0_0 a0_1 a0_2 a0_3 a0_4 a0_5 a0_6 a0_7 a0_8 a0_9)
set_option maxHeartbeats 8000000 in
set_option maxRecDepth 100000 in
theorem escritoireref06_Right.calls (k : Nat) (a0_0 : Int) (a0_1 : Int) (a0_2 : Int) (a0_3 : Int) (a0_4 : Int) (a0_5 : Int) (a0_6 : Int) (a0_7 : Int) (a0_8 : Int) (a0_9 : Int) (r : Bool) (w : World) (h : escritoireref06_Right.f k a0_0 a0_1 a0_2 a0_3 a0_4 a0_5 a0_6 a0_7 a0_8 a0_9 = some r) :
    Calls Try.prog 13 #[.agg #[.int .i64 a0_0, .int .i64 a0_1, .int .i64 a0_2, .int .u64 a0_3, .int .i64 a0_4, .int .i64 a0_5, .int .i64 a0_6, .int .i64 a0_7, .int .i64 a0_8, .int .i64 a0_9]] w fun e w' => e = .returned (.bool r) ∧ Below w.heap.size w w' := by
  have hu25 := Try.underlying25
  have HB := Aside0.mk (Below.refl w.heap.size w)
  have H : (if a0_0 = 0 then ((escritoireref06_None.f a0_3).bind fun bt193 => (some (a0_0 == bt193.1 && (a0_1 == bt193.2.1 && (a0_2 == bt193.2.2.1 && (a0_3 == bt193.2.2.2.1 && ((a0_4 == bt193.2.2.2.2.1 && (a0_5 == bt193.2.2.2.2.2.1 && (a0_6 == bt193.2.2.2.2.2.2.1 && (a0_7 == bt193.2.2.2.2.2.2.2.1 && (a0_8 == bt193.2.2.2.2.2.2.2.2.1))))) && (a0_9 == bt193.2.2.2.2.2.2.2.2.2)))))))) else (escritoireref06_Right.l0 k 0 a0_0 a0_1 a0_2 a0_3 a0_4 a0_5 a0_6 a0_7 a0_8 a0_9)) = some r := h
  clear h
  by_cases c2 : a0_0 = 0
  · rw [if_pos c2] at H
    have c2b0 : (a0_0 == 0) = true := beq_iff_eq.mpr c2
    have c2b1 : (a0_0 != 0) = false := bne_eq_false_iff_eq.mpr c2
    clear c2
    replace H := Option.bind_eq_some_iff.mp H
    obtain ⟨⟨t193, t194, t195, t196, t197, t198, t199, t200, t201, t202⟩, A30, H⟩ := H
    replace H : (some (a0_0 == t193 && (a0_1 == t194 && (a0_2 == t195 && (a0_3 == t196 && ((a0_4 == t197 && (a0_5 == t198 && (a0_6 == t199 && (a0_7 == t200 && (a0_8 == t201))))) && (a0_9 == t202))))))) = some r := H
    have A3 := Aside0.mk A30
    clear A30
    obtain rfl := Option.some.inj H
    go_enter Try.func13, Try.ntmps13
    try go_wp2_with (first | ((with_reducible refine gate_dst (N := 1) rfl ?_); refine box_event ?hg (N := 1) ?hd (cs := #[.int .i64 a0_0, .int .i64 a0_1, .int .i64 a0_2, .int .u64 a0_3, .int .i64 a0_4, .int .i64 a0_5, .int .i64 a0_6, .int .i64 a0_7, .int .i64 a0_8, .int .i64 a0_9]) (t := 25) ?hr ?_; (case hd => rfl); (case hg => rfl); (case hr => first | (go_simp; done) | (go_simp; rfl)); intro gb192 hg w4 hbox hb; have n0_ := Aside0.mk (below_step (by repeat (first | (with_reducible first | exact HB.out | apply below_alloc | apply pw_below_drewN | apply below_drew1) | exact HB.out)) hb); have n1_ := Aside0.mk (hbox); have n2_ := Aside0.mk ((by rw [hg]; exact (below_size (by repeat (first | (with_reducible first | exact HB.out | apply below_alloc | apply pw_below_drewN | apply below_drew1) | exact HB.out))) : w.heap.size ≤ gb192)); have n3_ := Aside0.mk ((by rw [hg]; exact (below_size (by repeat (first | (with_reducible first | exact HB.out | apply below_alloc | apply pw_below_drewN | apply below_drew1) | exact HB.out))) : w.heap.size ≤ gb192)); clear HB; have HB := n0_; have BK192 := n1_; have GW192 := n2_; have GE192 := n3_; clear n0_ n1_ n2_ n3_; clear hb hbox hg; have hcz5_0 : w4.cell? ⟨gb192, 0, none⟩ = some (.int .i64 a0_0) := (blk_cell BK192.out 0).trans rfl; have hcz5_1 : w4.cell? ⟨gb192, 1, none⟩ = some (.int .i64 a0_1) := (blk_cell BK192.out 1).trans rfl; have hcz5_2 : w4.cell? ⟨gb192, 2, none⟩ = some (.int .i64 a0_2) := (blk_cell BK192.out 2).trans rfl; have hcz5_3 : w4.cell? ⟨gb192, 3, none⟩ = some (.int .u64 a0_3) := (blk_cell BK192.out 3).trans rfl; have hcz5_4 : w4.cell? ⟨gb192, 4, none⟩ = some (.int .i64 a0_4) := (blk_cell BK192.out 4).trans rfl; have hcz5_5 : w4.cell? ⟨gb192, 5, none⟩ = some (.int .i64 a0_5) := (blk_cell BK192.out 5).trans rfl; have hcz5_6 : w4.cell? ⟨gb192, 6, none⟩ = some (.int .i64 a0_6) := (blk_cell BK192.out 6).trans rfl; have hcz5_7 : w4.cell? ⟨gb192, 7, none⟩ = some (.int .i64 a0_7) := (blk_cell BK192.out 7).trans rfl; have hcz5_8 : w4.cell? ⟨gb192, 8, none⟩ = some (.int .i64 a0_8) := (blk_cell BK192.out 8).trans rfl; have hcz5_9 : w4.cell? ⟨gb192, 9, none⟩ = some (.int .i64 a0_9) := (blk_cell BK192.out 9).trans rfl; have hfz5_0 := blk_frozen BK192.out 0; have hfz5_1 := blk_frozen BK192.out 1; have hfz5_2 := blk_frozen BK192.out 2; have hfz5_3 := blk_frozen BK192.out 3; have hfz5_4 := blk_frozen BK192.out 4; have hfz5_5 := blk_frozen BK192.out 5; have hfz5_6 := blk_frozen BK192.out 6; have hfz5_7 := blk_frozen BK192.out 7; have hfz5_8 := blk_frozen BK192.out 8; have hfz5_9 := blk_frozen BK192.out 9))
    have n0_ := Aside0.mk (blk_drew BK192.out)
    have n1_ := Aside0.mk (below_drew1 HB.out)
    clear BK192
    clear HB
    have BK192 := n0_
    have HB := n1_
    clear n0_ n1_
    refine start_ (n := 6) (S := fun w' => w'.cell? ⟨gb192, 0, none⟩ = some (.int .i64 a0_0) ∧ w'.cell? ⟨gb192, 1, none⟩ = some (.int .i64 a0_1) ∧ w'.cell? ⟨gb192, 2, none⟩ = some (.int .i64 a0_2) ∧ w'.cell? ⟨gb192, 3, none⟩ = some (.int .u64 a0_3) ∧ w'.cell? ⟨gb192, 4, none⟩ = some (.int .i64 a0_4) ∧ w'.cell? ⟨gb192, 5, none⟩ = some (.int .i64 a0_5) ∧ w'.cell? ⟨gb192, 6, none⟩ = some (.int .i64 a0_6) ∧ w'.cell? ⟨gb192, 7, none⟩ = some (.int .i64 a0_7) ∧ w'.cell? ⟨gb192, 8, none⟩ = some (.int .i64 a0_8) ∧ w'.cell? ⟨gb192, 9, none⟩ = some (.int .i64 a0_9)) (ds := []) #[false, false, false, false, false, false] (by kernel_rfl) rfl rfl ⟨(blk_cell BK192.out 0).trans rfl, (blk_cell BK192.out 1).trans rfl, (blk_cell BK192.out 2).trans rfl, (blk_cell BK192.out 3).trans rfl, (blk_cell BK192.out 4).trans rfl, (blk_cell BK192.out 5).trans rfl, (blk_cell BK192.out 6).trans rfl, (blk_cell BK192.out 7).trans rfl, (blk_cell BK192.out 8).trans rfl, (blk_cell BK192.out 9).trans rfl⟩ (fun hHeld => ?_)
    generalize w4.drew = w6 at BK192 HB hHeld ⊢
    refine pure_ (i := 1) (N := some 8) (v := ?_) (a' := ?_) #[false, true, false, false, false, false] rfl rfl (by kernel_rfl) (fun _ _ _ h => h) (Or.inl ⟨by rfl, ?_⟩) ?_ ?_
    rotate_left
    · intro w'
      go_simp
      with_reducible rfl
    rotate_left
    · simp only [Act.put, List.setIfInBounds_toArray, List.set_cons_zero, List.set_cons_succ, i64_w, i32_w]
      rfl
    refine take_ (i := 0) (N := some 7) (v := ?_) (a' := ?_) #[true, true, false, false, false, false] rfl rfl (by kernel_rfl) (fun _ _ _ h => h) (Or.inl ⟨by rfl, ?_⟩) hHeld ?_ ?_
    rotate_left
    · rintro w' ⟨s0, s1, s2, s3, s4, s5, s6, s7, s8, s9⟩
      go_simp
      with_reducible rfl
    rotate_left
    · simp only [Act.put, List.setIfInBounds_toArray, List.set_cons_zero, List.set_cons_succ, i64_w, i32_w]
      rfl
    refine take_ (i := 2) (N := some 9) (v := ?_) (a' := ?_) #[true, true, true, false, false, false] rfl rfl (by kernel_rfl) (fun _ _ _ h => h) (Or.inl ⟨by rfl, ?_⟩) hHeld ?_ ?_
    rotate_left
    · rintro w' ⟨s0, s1, s2, s3, s4, s5, s6, s7, s8, s9⟩
      go_simp
      with_reducible rfl
    rotate_left
    · simp only [Act.put, List.setIfInBounds_toArray, List.set_cons_zero, List.set_cons_succ, i64_w, i32_w]
      rfl
    refine one_ (i := 3) (N := some 10) #[true, true, true, true, false, false] rfl rfl (by kernel_rfl) (by decide) (fun K hK => ?_)
    refine goes_ Try.func19 (by kernel_rfl) rfl #[.int .u64 a0_3] (by rfl) rfl rfl (by (try simp only [List.map_toArray, List.map_cons, List.map_nil]); first | done | rfl | (simp only [List.length_drop, List.length_take]; rfl)) ?_
    with_reducible refine (escritoireref06_None.calls a0_3 t193 t194 t195 t196 t197 t198 t199 t200 t201 t202 _ A3.out).mono ?_
    rintro e w7 ⟨rfl, hb⟩
    refine ⟨_, rfl, ?_⟩
    have n0_ := Aside0.mk (blk_below (g := gb192) (o := .cells #[.int .i64 a0_0, .int .i64 a0_1, .int .i64 a0_2, .int .u64 a0_3, .int .i64 a0_4, .int .i64 a0_5, .int .i64 a0_6, .int .i64 a0_7, .int .i64 a0_8, .int .i64 a0_9] 25 (0, 0)) (by (with_reducible repeat (first | refine blk_drewN ?_ _ | refine blk_drew ?_ | refine blk_alloc ?_ _)); exact BK192.out) hb)
    have n1_ := Aside0.mk (below_step (by repeat (first | (with_reducible first | exact HB.out | apply below_alloc | apply pw_below_drewN | apply below_drew1 | refine below_set ?_ GE192.out) | exact HB.out)) hb)
    clear BK192
    clear HB
    have BK192 := n0_
    have HB := n1_
    clear n0_ n1_
    (try clear hb)
    (try clear hb2)
    (try clear hk)
    (try clear hi)
    refine hK.out _ _ ⟨(blk_cell BK192.out 0).trans rfl, (blk_cell BK192.out 1).trans rfl, (blk_cell BK192.out 2).trans rfl, (blk_cell BK192.out 3).trans rfl, (blk_cell BK192.out 4).trans rfl, (blk_cell BK192.out 5).trans rfl, (blk_cell BK192.out 6).trans rfl, (blk_cell BK192.out 7).trans rfl, (blk_cell BK192.out 8).trans rfl, (blk_cell BK192.out 9).trans rfl⟩ (fun hHeld => ?_)
    clear hK K
    refine norm_ (a' := ?_) ?_ ?_
    rotate_left
    · show Act.put _ (some 10) _ = _
      simp only [Act.put, List.setIfInBounds_toArray, List.set_cons_zero, List.set_cons_succ, i64_w, i32_w]
      rfl
    refine pure_ (i := 4) (N := some 11) (v := ?_) (a' := ?_) #[true, true, true, true, true, false] rfl rfl (by kernel_rfl) (fun _ _ _ h => h) (Or.inl ⟨by rfl, ?_⟩) ?_ ?_
    rotate_left
    · intro w'
      go_simp
      with_reducible rfl
    rotate_left
    · simp only [Act.put, List.setIfInBounds_toArray, List.set_cons_zero, List.set_cons_succ, i64_w, i32_w]
      rfl
    refine pure_ (i := 5) (N := some 2) (v := ?_) (a' := ?_) #[true, true, true, true, true, true] rfl rfl (by kernel_rfl) (fun _ _ _ h => h) (Or.inl ⟨by rfl, ?_⟩) ?_ ?_
    rotate_left
    · intro w'
      go_simp
      with_reducible rfl
    rotate_left
    · simp only [Act.put, List.setIfInBounds_toArray, List.set_cons_zero, List.set_cons_succ, i64_w, i32_w]
      rfl
    refine done_ (by kernel_rfl) ?_
    try go_wp2
    go_ret
    exact ⟨by first | rfl | (simp [errW_none, errW_some] <;> rfl) | (simp [*, errW_none, errW_some] <;> rfl), by repeat (first | (with_reducible first | exact HB.out | apply below_alloc | apply pw_below_drewN | apply below_drew1 | refine below_set ?_ GE192.out) | exact HB.out)⟩
  · rw [if_neg c2] at H
    have c2b0 : (a0_0 == 0) = false := beq_eq_false_iff_ne.mpr c2
    have c2b1 : (a0_0 != 0) = true := bne_iff_ne.mpr c2
    have H' := Aside0.mk H
    clear H
    go_enter Try.func13, Try.ntmps13
    go_wp2_with (first | ((with_reducible refine gate_dst (N := 1) rfl ?_); refine box_event ?hg (N := 1) ?hd (cs := #[.int .i64 a0_0, .int .i64 a0_1, .int .i64 a0_2, .int .u64 a0_3, .int .i64 a0_4, .int .i64 a0_5, .int .i64 a0_6, .int .i64 a0_7, .int .i64 a0_8, .int .i64 a0_9]) (t := 25) ?hr ?_; (case hd => rfl); (case hg => rfl); (case hr => first | (go_simp; done) | (go_simp; rfl)); intro gb192 hg w8 hbox hb; have n0_ := Aside0.mk (below_step (by repeat (first | (with_reducible first | exact HB.out | apply below_alloc | apply pw_below_drewN | apply below_drew1) | exact HB.out)) hb); have n1_ := Aside0.mk (hbox); have n2_ := Aside0.mk ((by rw [hg]; exact (below_size (by repeat (first | (with_reducible first | exact HB.out | apply below_alloc | apply pw_below_drewN | apply below_drew1) | exact HB.out))) : w.heap.size ≤ gb192)); have n3_ := Aside0.mk ((by rw [hg]; exact (below_size (by repeat (first | (with_reducible first | exact HB.out | apply below_alloc | apply pw_below_drewN | apply below_drew1) | exact HB.out))) : w.heap.size ≤ gb192)); clear HB; have HB := n0_; have BK192 := n1_; have GW192 := n2_; have GE192 := n3_; clear n0_ n1_ n2_ n3_; clear hb hbox hg; have hcz9_0 : w8.cell? ⟨gb192, 0, none⟩ = some (.int .i64 a0_0) := (blk_cell BK192.out 0).trans rfl; have hcz9_1 : w8.cell? ⟨gb192, 1, none⟩ = some (.int .i64 a0_1) := (blk_cell BK192.out 1).trans rfl; have hcz9_2 : w8.cell? ⟨gb192, 2, none⟩ = some (.int .i64 a0_2) := (blk_cell BK192.out 2).trans rfl; have hcz9_3 : w8.cell? ⟨gb192, 3, none⟩ = some (.int .u64 a0_3) := (blk_cell BK192.out 3).trans rfl; have hcz9_4 : w8.cell? ⟨gb192, 4, none⟩ = some (.int .i64 a0_4) := (blk_cell BK192.out 4).trans rfl; have hcz9_5 : w8.cell? ⟨gb192, 5, none⟩ = some (.int .i64 a0_5) := (blk_cell BK192.out 5).trans rfl; have hcz9_6 : w8.cell? ⟨gb192, 6, none⟩ = some (.int .i64 a0_6) := (blk_cell BK192.out 6).trans rfl; have hcz9_7 : w8.cell? ⟨gb192, 7, none⟩ = some (.int .i64 a0_7) := (blk_cell BK192.out 7).trans rfl; have hcz9_8 : w8.cell? ⟨gb192, 8, none⟩ = some (.int .i64 a0_8) := (blk_cell BK192.out 8).trans rfl; have hcz9_9 : w8.cell? ⟨gb192, 9, none⟩ = some (.int .i64 a0_9) := (blk_cell BK192.out 9).trans rfl; have hfz9_0 := blk_frozen BK192.out 0; have hfz9_1 := blk_frozen BK192.out 1; have hfz9_2 := blk_frozen BK192.out 2; have hfz9_3 := blk_frozen BK192.out 3; have hfz9_4 := blk_frozen BK192.out 4; have hfz9_5 := blk_frozen BK192.out 5; have hfz9_6 := blk_frozen BK192.out 6; have hfz9_7 := blk_frozen BK192.out 7; have hfz9_8 := blk_frozen BK192.out 8; have hfz9_9 := blk_frozen BK192.out 9))
    go_loopg [3] k (fun kq v3 w' => ∃ (x3_1 : Int), v3 = .int .i64 x3_1 ∧ Aside0 (escritoireref06_Right.l0 kq x3_1 a0_0 a0_1 a0_2 a0_3 a0_4 a0_5 a0_6 a0_7 a0_8 a0_9 = some r) ∧ Aside0 (kq ≤ k) ∧ Aside0 (w'.heap[gb192]? = some (.cells #[.int .i64 a0_0, .int .i64 a0_1, .int .i64 a0_2, .int .u64 a0_3, .int .i64 a0_4, .int .i64 a0_5, .int .i64 a0_6, .int .i64 a0_7, .int .i64 a0_8, .int .i64 a0_9] 25 (0, 0))) ∧ Aside0 (Below w.heap.size w w'))
    case atStart => exact ⟨(0), (by first | rfl | (simp; done) | (simp [*]; done) | kernel_rfl), H', ⟨Nat.le_refl _⟩, ⟨by (with_reducible repeat (first | refine blk_drewN ?_ _ | refine blk_drew ?_ | refine blk_alloc ?_ _)); exact BK192.out⟩, ⟨by repeat (first | (with_reducible first | exact HB.out | apply below_alloc | apply pw_below_drewN | apply below_drew1 | refine below_set ?_ GE192.out) | exact HB.out)⟩⟩
    case round =>
      clear H'
      try clear c1
      try clear c2
      try clear c2b0
      try clear c2b1
      try clear p2
      try clear hcz5_0
      try clear hcz5_1
      try clear hcz5_2
      try clear hcz5_3
      try clear hcz5_4
      try clear hcz5_5
      try clear hcz5_6
      try clear hcz5_7
      try clear hcz5_8
      try clear hcz5_9
      try clear hcz9_0
      try clear hcz9_1
      try clear hcz9_2
      try clear hcz9_3
      try clear hcz9_4
      try clear hcz9_5
      try clear hcz9_6
      try clear hcz9_7
      try clear hcz9_8
      try clear hcz9_9
      try clear hfz5_0
      try clear hfz5_1
      try clear hfz5_2
      try clear hfz5_3
      try clear hfz5_4
      try clear hfz5_5
      try clear hfz5_6
      try clear hfz5_7
      try clear hfz5_8
      try clear hfz5_9
      try clear hfz9_0
      try clear hfz9_1
      try clear hfz9_2
      try clear hfz9_3
      try clear hfz9_4
      try clear hfz9_5
      try clear hfz9_6
      try clear hfz9_7
      try clear hfz9_8
      try clear hfz9_9
      obtain ⟨x3_1, rfl, HA, HK1, BK192, HB⟩ := hrel
      cases gk with
      | zero => exact absurd HA.out (by simp [escritoireref06_Right.l0])
      | succ k1 =>
        have H := HA.out
        clear HA
        simp only [escritoireref06_Right.l0] at H
        by_cases c10 : x3_1 < 5
        · rw [if_pos c10] at H
          have c10b0 : decide (x3_1 < 5) = true := decide_eq_true c10
          clear c10
          by_cases c11 : x3_1 = 0
          · subst c11
            have H1 : ((escritoireref06_block.f a0_4).bind fun t203 => (if t203 = true then (escritoireref06_Right.l0 k1 (wrap64 (0 + 1)) a0_0 a0_1 a0_2 a0_3 a0_4 a0_5 a0_6 a0_7 a0_8 a0_9) else (some false))) = some r := by rw [if_pos rfl] at H; exact H
            clear H
            have H := H1
            clear H1
            replace H := Option.bind_eq_some_iff.mp H
            obtain ⟨t203, A120, H⟩ := H
            replace H : (if t203 = true then (escritoireref06_Right.l0 k1 (wrap64 (0 + 1)) a0_0 a0_1 a0_2 a0_3 a0_4 a0_5 a0_6 a0_7 a0_8 a0_9) else (some false)) = some r := H
            have A12 := Aside0.mk A120
            clear A120
            by_cases c13 : t203 = true
            · subst c13
              have H1 : (escritoireref06_Right.l0 k1 (wrap64 (0 + 1)) a0_0 a0_1 a0_2 a0_3 a0_4 a0_5 a0_6 a0_7 a0_8 a0_9) = some r := by rw [if_pos rfl] at H; exact H
              clear H
              have H := H1
              clear H1
              have H' := Aside0.mk H
              clear H
              have hcz14_0 : wr.cell? ⟨gb192, 0, none⟩ = some (.int .i64 a0_0) := (blk_cell BK192.out 0).trans rfl
              have hcz14_1 : wr.cell? ⟨gb192, 1, none⟩ = some (.int .i64 a0_1) := (blk_cell BK192.out 1).trans rfl
              have hcz14_2 : wr.cell? ⟨gb192, 2, none⟩ = some (.int .i64 a0_2) := (blk_cell BK192.out 2).trans rfl
              have hcz14_3 : wr.cell? ⟨gb192, 3, none⟩ = some (.int .u64 a0_3) := (blk_cell BK192.out 3).trans rfl
              have hcz14_4 : wr.cell? ⟨gb192, 4, none⟩ = some (.int .i64 a0_4) := (blk_cell BK192.out 4).trans rfl
              have hcz14_5 : wr.cell? ⟨gb192, 5, none⟩ = some (.int .i64 a0_5) := (blk_cell BK192.out 5).trans rfl
              have hcz14_6 : wr.cell? ⟨gb192, 6, none⟩ = some (.int .i64 a0_6) := (blk_cell BK192.out 6).trans rfl
              have hcz14_7 : wr.cell? ⟨gb192, 7, none⟩ = some (.int .i64 a0_7) := (blk_cell BK192.out 7).trans rfl
              have hcz14_8 : wr.cell? ⟨gb192, 8, none⟩ = some (.int .i64 a0_8) := (blk_cell BK192.out 8).trans rfl
              have hcz14_9 : wr.cell? ⟨gb192, 9, none⟩ = some (.int .i64 a0_9) := (blk_cell BK192.out 9).trans rfl
              have hfz14_0 := blk_frozen BK192.out 0
              have hfz14_1 := blk_frozen BK192.out 1
              have hfz14_2 := blk_frozen BK192.out 2
              have hfz14_3 := blk_frozen BK192.out 3
              have hfz14_4 := blk_frozen BK192.out 4
              have hfz14_5 := blk_frozen BK192.out 5
              have hfz14_6 := blk_frozen BK192.out 6
              have hfz14_7 := blk_frozen BK192.out 7
              have hfz14_8 := blk_frozen BK192.out 8
              have hfz14_9 := blk_frozen BK192.out 9
              go_wp2_with (first | ((with_reducible refine gate_callee (f := 25) rfl ?_); refine goesL_ (some 20) rfl rfl Try.func25 (by kernel_rfl) rfl #[.int .i64 a0_4] rfl (by (try simp only [List.map_toArray, List.map_cons, List.map_nil]); first | done | rfl | (simp only [List.length_drop, List.length_take]; rfl)) ?_; (with_reducible refine (escritoireref06_block.calls a0_4 true _ A12.out).mono ?_); rintro e w' ⟨rfl, ⟨nd, rfl⟩⟩; refine ⟨_, rfl, ?_⟩))
              go_roundg k1
              case measure => have := HK1.out; omega
              case rel => exact ⟨(wrap64 (0 + 1)), (by first | rfl | (simp; done) | (simp [*]; done) | kernel_rfl), H', ⟨by have := HK1.out; omega⟩, ⟨by (with_reducible repeat (first | refine blk_drewN ?_ _ | refine blk_drew ?_ | refine blk_alloc ?_ _)); exact BK192.out⟩, ⟨by repeat (first | (with_reducible first | exact HB.out | apply below_alloc | apply pw_below_drewN | apply below_drew1 | refine below_set ?_ GE192.out) | exact HB.out)⟩⟩
            · replace c13 := Bool.eq_false_iff.mpr c13
              subst c13
              have H1 : (some false) = some r := by rw [if_neg (show ¬ (false = true) by decide)] at H; exact H
              clear H
              have H := H1
              clear H1
              obtain rfl := Option.some.inj H
              have hcz15_0 : wr.cell? ⟨gb192, 0, none⟩ = some (.int .i64 a0_0) := (blk_cell BK192.out 0).trans rfl
              have hcz15_1 : wr.cell? ⟨gb192, 1, none⟩ = some (.int .i64 a0_1) := (blk_cell BK192.out 1).trans rfl
              have hcz15_2 : wr.cell? ⟨gb192, 2, none⟩ = some (.int .i64 a0_2) := (blk_cell BK192.out 2).trans rfl
              have hcz15_3 : wr.cell? ⟨gb192, 3, none⟩ = some (.int .u64 a0_3) := (blk_cell BK192.out 3).trans rfl
              have hcz15_4 : wr.cell? ⟨gb192, 4, none⟩ = some (.int .i64 a0_4) := (blk_cell BK192.out 4).trans rfl
              have hcz15_5 : wr.cell? ⟨gb192, 5, none⟩ = some (.int .i64 a0_5) := (blk_cell BK192.out 5).trans rfl
              have hcz15_6 : wr.cell? ⟨gb192, 6, none⟩ = some (.int .i64 a0_6) := (blk_cell BK192.out 6).trans rfl
              have hcz15_7 : wr.cell? ⟨gb192, 7, none⟩ = some (.int .i64 a0_7) := (blk_cell BK192.out 7).trans rfl
              have hcz15_8 : wr.cell? ⟨gb192, 8, none⟩ = some (.int .i64 a0_8) := (blk_cell BK192.out 8).trans rfl
              have hcz15_9 : wr.cell? ⟨gb192, 9, none⟩ = some (.int .i64 a0_9) := (blk_cell BK192.out 9).trans rfl
              have hfz15_0 := blk_frozen BK192.out 0
              have hfz15_1 := blk_frozen BK192.out 1
              have hfz15_2 := blk_frozen BK192.out 2
              have hfz15_3 := blk_frozen BK192.out 3
              have hfz15_4 := blk_frozen BK192.out 4
              have hfz15_5 := blk_frozen BK192.out 5
              have hfz15_6 := blk_frozen BK192.out 6
              have hfz15_7 := blk_frozen BK192.out 7
              have hfz15_8 := blk_frozen BK192.out 8
              have hfz15_9 := blk_frozen BK192.out 9
              go_wp2_with (first | ((with_reducible refine gate_callee (f := 25) rfl ?_); refine goesL_ (some 20) rfl rfl Try.func25 (by kernel_rfl) rfl #[.int .i64 a0_4] rfl (by (try simp only [List.map_toArray, List.map_cons, List.map_nil]); first | done | rfl | (simp only [List.length_drop, List.length_take]; rfl)) ?_; (with_reducible refine (escritoireref06_block.calls a0_4 false _ A12.out).mono ?_); rintro e w' ⟨rfl, ⟨nd, rfl⟩⟩; refine ⟨_, rfl, ?_⟩))
              go_ret
              exact ⟨by first | rfl | (simp [errW_none, errW_some] <;> rfl) | (simp [*, errW_none, errW_some] <;> rfl), by repeat (first | (with_reducible first | exact HB.out | apply below_alloc | apply pw_below_drewN | apply below_drew1 | refine below_set ?_ GE192.out) | exact HB.out)⟩
          · rw [if_neg c11] at H
            by_cases c16 : x3_1 = 1
            · subst c16
              have H1 : ((escritoireref06_block.f a0_5).bind fun t204 => (if t204 = true then (escritoireref06_Right.l0 k1 (wrap64 (1 + 1)) a0_0 a0_1 a0_2 a0_3 a0_4 a0_5 a0_6 a0_7 a0_8 a0_9) else (some false))) = some r := by rw [if_pos rfl] at H; exact H
              clear H
              have H := H1
              clear H1
              replace H := Option.bind_eq_some_iff.mp H
              obtain ⟨t204, A170, H⟩ := H
              replace H : (if t204 = true then (escritoireref06_Right.l0 k1 (wrap64 (1 + 1)) a0_0 a0_1 a0_2 a0_3 a0_4 a0_5 a0_6 a0_7 a0_8 a0_9) else (some false)) = some r := H
              have A17 := Aside0.mk A170
              clear A170
              by_cases c18 : t204 = true
              · subst c18
                have H1 : (escritoireref06_Right.l0 k1 (wrap64 (1 + 1)) a0_0 a0_1 a0_2 a0_3 a0_4 a0_5 a0_6 a0_7 a0_8 a0_9) = some r := by rw [if_pos rfl] at H; exact H
                clear H
                have H := H1
                clear H1
                have H' := Aside0.mk H
                clear H
                have hcz19_0 : wr.cell? ⟨gb192, 0, none⟩ = some (.int .i64 a0_0) := (blk_cell BK192.out 0).trans rfl
                have hcz19_1 : wr.cell? ⟨gb192, 1, none⟩ = some (.int .i64 a0_1) := (blk_cell BK192.out 1).trans rfl
                have hcz19_2 : wr.cell? ⟨gb192, 2, none⟩ = some (.int .i64 a0_2) := (blk_cell BK192.out 2).trans rfl
                have hcz19_3 : wr.cell? ⟨gb192, 3, none⟩ = some (.int .u64 a0_3) := (blk_cell BK192.out 3).trans rfl
                have hcz19_4 : wr.cell? ⟨gb192, 4, none⟩ = some (.int .i64 a0_4) := (blk_cell BK192.out 4).trans rfl
                have hcz19_5 : wr.cell? ⟨gb192, 5, none⟩ = some (.int .i64 a0_5) := (blk_cell BK192.out 5).trans rfl
                have hcz19_6 : wr.cell? ⟨gb192, 6, none⟩ = some (.int .i64 a0_6) := (blk_cell BK192.out 6).trans rfl
                have hcz19_7 : wr.cell? ⟨gb192, 7, none⟩ = some (.int .i64 a0_7) := (blk_cell BK192.out 7).trans rfl
                have hcz19_8 : wr.cell? ⟨gb192, 8, none⟩ = some (.int .i64 a0_8) := (blk_cell BK192.out 8).trans rfl
                have hcz19_9 : wr.cell? ⟨gb192, 9, none⟩ = some (.int .i64 a0_9) := (blk_cell BK192.out 9).trans rfl
                have hfz19_0 := blk_frozen BK192.out 0
                have hfz19_1 := blk_frozen BK192.out 1
                have hfz19_2 := blk_frozen BK192.out 2
                have hfz19_3 := blk_frozen BK192.out 3
                have hfz19_4 := blk_frozen BK192.out 4
                have hfz19_5 := blk_frozen BK192.out 5
                have hfz19_6 := blk_frozen BK192.out 6
                have hfz19_7 := blk_frozen BK192.out 7
                have hfz19_8 := blk_frozen BK192.out 8
                have hfz19_9 := blk_frozen BK192.out 9
                go_wp2_with (first | ((with_reducible refine gate_callee (f := 25) rfl ?_); refine goesL_ (some 20) rfl rfl Try.func25 (by kernel_rfl) rfl #[.int .i64 a0_5] rfl (by (try simp only [List.map_toArray, List.map_cons, List.map_nil]); first | done | rfl | (simp only [List.length_drop, List.length_take]; rfl)) ?_; (with_reducible refine (escritoireref06_block.calls a0_5 true _ A17.out).mono ?_); rintro e w' ⟨rfl, ⟨nd, rfl⟩⟩; refine ⟨_, rfl, ?_⟩))
                go_roundg k1
                case measure => have := HK1.out; omega
                case rel => exact ⟨(wrap64 (1 + 1)), (by first | rfl | (simp; done) | (simp [*]; done) | kernel_rfl), H', ⟨by have := HK1.out; omega⟩, ⟨by (with_reducible repeat (first | refine blk_drewN ?_ _ | refine blk_drew ?_ | refine blk_alloc ?_ _)); exact BK192.out⟩, ⟨by repeat (first | (with_reducible first | exact HB.out | apply below_alloc | apply pw_below_drewN | apply below_drew1 | refine below_set ?_ GE192.out) | exact HB.out)⟩⟩
              · replace c18 := Bool.eq_false_iff.mpr c18
                subst c18
                have H1 : (some false) = some r := by rw [if_neg (show ¬ (false = true) by decide)] at H; exact H
                clear H
                have H := H1
                clear H1
                obtain rfl := Option.some.inj H
                have hcz20_0 : wr.cell? ⟨gb192, 0, none⟩ = some (.int .i64 a0_0) := (blk_cell BK192.out 0).trans rfl
                have hcz20_1 : wr.cell? ⟨gb192, 1, none⟩ = some (.int .i64 a0_1) := (blk_cell BK192.out 1).trans rfl
                have hcz20_2 : wr.cell? ⟨gb192, 2, none⟩ = some (.int .i64 a0_2) := (blk_cell BK192.out 2).trans rfl
                have hcz20_3 : wr.cell? ⟨gb192, 3, none⟩ = some (.int .u64 a0_3) := (blk_cell BK192.out 3).trans rfl
                have hcz20_4 : wr.cell? ⟨gb192, 4, none⟩ = some (.int .i64 a0_4) := (blk_cell BK192.out 4).trans rfl
                have hcz20_5 : wr.cell? ⟨gb192, 5, none⟩ = some (.int .i64 a0_5) := (blk_cell BK192.out 5).trans rfl
                have hcz20_6 : wr.cell? ⟨gb192, 6, none⟩ = some (.int .i64 a0_6) := (blk_cell BK192.out 6).trans rfl
                have hcz20_7 : wr.cell? ⟨gb192, 7, none⟩ = some (.int .i64 a0_7) := (blk_cell BK192.out 7).trans rfl
                have hcz20_8 : wr.cell? ⟨gb192, 8, none⟩ = some (.int .i64 a0_8) := (blk_cell BK192.out 8).trans rfl
                have hcz20_9 : wr.cell? ⟨gb192, 9, none⟩ = some (.int .i64 a0_9) := (blk_cell BK192.out 9).trans rfl
                have hfz20_0 := blk_frozen BK192.out 0
                have hfz20_1 := blk_frozen BK192.out 1
                have hfz20_2 := blk_frozen BK192.out 2
                have hfz20_3 := blk_frozen BK192.out 3
                have hfz20_4 := blk_frozen BK192.out 4
                have hfz20_5 := blk_frozen BK192.out 5
                have hfz20_6 := blk_frozen BK192.out 6
                have hfz20_7 := blk_frozen BK192.out 7
                have hfz20_8 := blk_frozen BK192.out 8
                have hfz20_9 := blk_frozen BK192.out 9
                go_wp2_with (first | ((with_reducible refine gate_callee (f := 25) rfl ?_); refine goesL_ (some 20) rfl rfl Try.func25 (by kernel_rfl) rfl #[.int .i64 a0_5] rfl (by (try simp only [List.map_toArray, List.map_cons, List.map_nil]); first | done | rfl | (simp only [List.length_drop, List.length_take]; rfl)) ?_; (with_reducible refine (escritoireref06_block.calls a0_5 false _ A17.out).mono ?_); rintro e w' ⟨rfl, ⟨nd, rfl⟩⟩; refine ⟨_, rfl, ?_⟩))
                go_ret
                exact ⟨by first | rfl | (simp [errW_none, errW_some] <;> rfl) | (simp [*, errW_none, errW_some] <;> rfl), by repeat (first | (with_reducible first | exact HB.out | apply below_alloc | apply pw_below_drewN | apply below_drew1 | refine below_set ?_ GE192.out) | exact HB.out)⟩
            · rw [if_neg c16] at H
              by_cases c21 : x3_1 = 2
              · subst c21
                have H1 : ((escritoireref06_block.f a0_6).bind fun t205 => (if t205 = true then (escritoireref06_Right.l0 k1 (wrap64 (2 + 1)) a0_0 a0_1 a0_2 a0_3 a0_4 a0_5 a0_6 a0_7 a0_8 a0_9) else (some false))) = some r := by rw [if_pos rfl] at H; exact H
                clear H
                have H := H1
                clear H1
                replace H := Option.bind_eq_some_iff.mp H
                obtain ⟨t205, A220, H⟩ := H
                replace H : (if t205 = true then (escritoireref06_Right.l0 k1 (wrap64 (2 + 1)) a0_0 a0_1 a0_2 a0_3 a0_4 a0_5 a0_6 a0_7 a0_8 a0_9) else (some false)) = some r := H
                have A22 := Aside0.mk A220
                clear A220
                by_cases c23 : t205 = true
                · subst c23
                  have H1 : (escritoireref06_Right.l0 k1 (wrap64 (2 + 1)) a0_0 a0_1 a0_2 a0_3 a0_4 a0_5 a0_6 a0_7 a0_8 a0_9) = some r := by rw [if_pos rfl] at H; exact H
                  clear H
                  have H := H1
                  clear H1
                  have H' := Aside0.mk H
                  clear H
                  have hcz24_0 : wr.cell? ⟨gb192, 0, none⟩ = some (.int .i64 a0_0) := (blk_cell BK192.out 0).trans rfl
                  have hcz24_1 : wr.cell? ⟨gb192, 1, none⟩ = some (.int .i64 a0_1) := (blk_cell BK192.out 1).trans rfl
                  have hcz24_2 : wr.cell? ⟨gb192, 2, none⟩ = some (.int .i64 a0_2) := (blk_cell BK192.out 2).trans rfl
                  have hcz24_3 : wr.cell? ⟨gb192, 3, none⟩ = some (.int .u64 a0_3) := (blk_cell BK192.out 3).trans rfl
                  have hcz24_4 : wr.cell? ⟨gb192, 4, none⟩ = some (.int .i64 a0_4) := (blk_cell BK192.out 4).trans rfl
                  have hcz24_5 : wr.cell? ⟨gb192, 5, none⟩ = some (.int .i64 a0_5) := (blk_cell BK192.out 5).trans rfl
                  have hcz24_6 : wr.cell? ⟨gb192, 6, none⟩ = some (.int .i64 a0_6) := (blk_cell BK192.out 6).trans rfl
                  have hcz24_7 : wr.cell? ⟨gb192, 7, none⟩ = some (.int .i64 a0_7) := (blk_cell BK192.out 7).trans rfl
                  have hcz24_8 : wr.cell? ⟨gb192, 8, none⟩ = some (.int .i64 a0_8) := (blk_cell BK192.out 8).trans rfl
                  have hcz24_9 : wr.cell? ⟨gb192, 9, none⟩ = some (.int .i64 a0_9) := (blk_cell BK192.out 9).trans rfl
                  have hfz24_0 := blk_frozen BK192.out 0
                  have hfz24_1 := blk_frozen BK192.out 1
                  have hfz24_2 := blk_frozen BK192.out 2
                  have hfz24_3 := blk_frozen BK192.out 3
                  have hfz24_4 := blk_frozen BK192.out 4
                  have hfz24_5 := blk_frozen BK192.out 5
                  have hfz24_6 := blk_frozen BK192.out 6
                  have hfz24_7 := blk_frozen BK192.out 7
                  have hfz24_8 := blk_frozen BK192.out 8
                  have hfz24_9 := blk_frozen BK192.out 9
                  go_wp2_with (first | ((with_reducible refine gate_callee (f := 25) rfl ?_); refine goesL_ (some 20) rfl rfl Try.func25 (by kernel_rfl) rfl #[.int .i64 a0_6] rfl (by (try simp only [List.map_toArray, List.map_cons, List.map_nil]); first | done | rfl | (simp only [List.length_drop, List.length_take]; rfl)) ?_; (with_reducible refine (escritoireref06_block.calls a0_6 true _ A22.out).mono ?_); rintro e w' ⟨rfl, ⟨nd, rfl⟩⟩; refine ⟨_, rfl, ?_⟩))
                  go_roundg k1
                  case measure => have := HK1.out; omega
                  case rel => exact ⟨(wrap64 (2 + 1)), (by first | rfl | (simp; done) | (simp [*]; done) | kernel_rfl), H', ⟨by have := HK1.out; omega⟩, ⟨by (with_reducible repeat (first | refine blk_drewN ?_ _ | refine blk_drew ?_ | refine blk_alloc ?_ _)); exact BK192.out⟩, ⟨by repeat (first | (with_reducible first | exact HB.out | apply below_alloc | apply pw_below_drewN | apply below_drew1 | refine below_set ?_ GE192.out) | exact HB.out)⟩⟩
                · replace c23 := Bool.eq_false_iff.mpr c23
                  subst c23
                  have H1 : (some false) = some r := by rw [if_neg (show ¬ (false = true) by decide)] at H; exact H
                  clear H
                  have H := H1
                  clear H1
                  obtain rfl := Option.some.inj H
                  have hcz25_0 : wr.cell? ⟨gb192, 0, none⟩ = some (.int .i64 a0_0) := (blk_cell BK192.out 0).trans rfl
                  have hcz25_1 : wr.cell? ⟨gb192, 1, none⟩ = some (.int .i64 a0_1) := (blk_cell BK192.out 1).trans rfl
                  have hcz25_2 : wr.cell? ⟨gb192, 2, none⟩ = some (.int .i64 a0_2) := (blk_cell BK192.out 2).trans rfl
                  have hcz25_3 : wr.cell? ⟨gb192, 3, none⟩ = some (.int .u64 a0_3) := (blk_cell BK192.out 3).trans rfl
                  have hcz25_4 : wr.cell? ⟨gb192, 4, none⟩ = some (.int .i64 a0_4) := (blk_cell BK192.out 4).trans rfl
                  have hcz25_5 : wr.cell? ⟨gb192, 5, none⟩ = some (.int .i64 a0_5) := (blk_cell BK192.out 5).trans rfl
                  have hcz25_6 : wr.cell? ⟨gb192, 6, none⟩ = some (.int .i64 a0_6) := (blk_cell BK192.out 6).trans rfl
                  have hcz25_7 : wr.cell? ⟨gb192, 7, none⟩ = some (.int .i64 a0_7) := (blk_cell BK192.out 7).trans rfl
                  have hcz25_8 : wr.cell? ⟨gb192, 8, none⟩ = some (.int .i64 a0_8) := (blk_cell BK192.out 8).trans rfl
                  have hcz25_9 : wr.cell? ⟨gb192, 9, none⟩ = some (.int .i64 a0_9) := (blk_cell BK192.out 9).trans rfl
                  have hfz25_0 := blk_frozen BK192.out 0
                  have hfz25_1 := blk_frozen BK192.out 1
                  have hfz25_2 := blk_frozen BK192.out 2
                  have hfz25_3 := blk_frozen BK192.out 3
                  have hfz25_4 := blk_frozen BK192.out 4
                  have hfz25_5 := blk_frozen BK192.out 5
                  have hfz25_6 := blk_frozen BK192.out 6
                  have hfz25_7 := blk_frozen BK192.out 7
                  have hfz25_8 := blk_frozen BK192.out 8
                  have hfz25_9 := blk_frozen BK192.out 9
                  go_wp2_with (first | ((with_reducible refine gate_callee (f := 25) rfl ?_); refine goesL_ (some 20) rfl rfl Try.func25 (by kernel_rfl) rfl #[.int .i64 a0_6] rfl (by (try simp only [List.map_toArray, List.map_cons, List.map_nil]); first | done | rfl | (simp only [List.length_drop, List.length_take]; rfl)) ?_; (with_reducible refine (escritoireref06_block.calls a0_6 false _ A22.out).mono ?_); rintro e w' ⟨rfl, ⟨nd, rfl⟩⟩; refine ⟨_, rfl, ?_⟩))
                  go_ret
                  exact ⟨by first | rfl | (simp [errW_none, errW_some] <;> rfl) | (simp [*, errW_none, errW_some] <;> rfl), by repeat (first | (with_reducible first | exact HB.out | apply below_alloc | apply pw_below_drewN | apply below_drew1 | refine below_set ?_ GE192.out) | exact HB.out)⟩
              · rw [if_neg c21] at H
                by_cases c26 : x3_1 = 3
                · subst c26
                  have H1 : ((escritoireref06_block.f a0_7).bind fun t206 => (if t206 = true then (escritoireref06_Right.l0 k1 (wrap64 (3 + 1)) a0_0 a0_1 a0_2 a0_3 a0_4 a0_5 a0_6 a0_7 a0_8 a0_9) else (some false))) = some r := by rw [if_pos rfl] at H; exact H
                  clear H
                  have H := H1
                  clear H1
                  replace H := Option.bind_eq_some_iff.mp H
                  obtain ⟨t206, A270, H⟩ := H
                  replace H : (if t206 = true then (escritoireref06_Right.l0 k1 (wrap64 (3 + 1)) a0_0 a0_1 a0_2 a0_3 a0_4 a0_5 a0_6 a0_7 a0_8 a0_9) else (some false)) = some r := H
                  have A27 := Aside0.mk A270
                  clear A270
                  by_cases c28 : t206 = true
                  · subst c28
                    have H1 : (escritoireref06_Right.l0 k1 (wrap64 (3 + 1)) a0_0 a0_1 a0_2 a0_3 a0_4 a0_5 a0_6 a0_7 a0_8 a0_9) = some r := by rw [if_pos rfl] at H; exact H
                    clear H
                    have H := H1
                    clear H1
                    have H' := Aside0.mk H
                    clear H
                    have hcz29_0 : wr.cell? ⟨gb192, 0, none⟩ = some (.int .i64 a0_0) := (blk_cell BK192.out 0).trans rfl
                    have hcz29_1 : wr.cell? ⟨gb192, 1, none⟩ = some (.int .i64 a0_1) := (blk_cell BK192.out 1).trans rfl
                    have hcz29_2 : wr.cell? ⟨gb192, 2, none⟩ = some (.int .i64 a0_2) := (blk_cell BK192.out 2).trans rfl
                    have hcz29_3 : wr.cell? ⟨gb192, 3, none⟩ = some (.int .u64 a0_3) := (blk_cell BK192.out 3).trans rfl
                    have hcz29_4 : wr.cell? ⟨gb192, 4, none⟩ = some (.int .i64 a0_4) := (blk_cell BK192.out 4).trans rfl
                    have hcz29_5 : wr.cell? ⟨gb192, 5, none⟩ = some (.int .i64 a0_5) := (blk_cell BK192.out 5).trans rfl
                    have hcz29_6 : wr.cell? ⟨gb192, 6, none⟩ = some (.int .i64 a0_6) := (blk_cell BK192.out 6).trans rfl
                    have hcz29_7 : wr.cell? ⟨gb192, 7, none⟩ = some (.int .i64 a0_7) := (blk_cell BK192.out 7).trans rfl
                    have hcz29_8 : wr.cell? ⟨gb192, 8, none⟩ = some (.int .i64 a0_8) := (blk_cell BK192.out 8).trans rfl
                    have hcz29_9 : wr.cell? ⟨gb192, 9, none⟩ = some (.int .i64 a0_9) := (blk_cell BK192.out 9).trans rfl
                    have hfz29_0 := blk_frozen BK192.out 0
                    have hfz29_1 := blk_frozen BK192.out 1
                    have hfz29_2 := blk_frozen BK192.out 2
                    have hfz29_3 := blk_frozen BK192.out 3
                    have hfz29_4 := blk_frozen BK192.out 4
                    have hfz29_5 := blk_frozen BK192.out 5
                    have hfz29_6 := blk_frozen BK192.out 6
                    have hfz29_7 := blk_frozen BK192.out 7
                    have hfz29_8 := blk_frozen BK192.out 8
                    have hfz29_9 := blk_frozen BK192.out 9
                    go_wp2_with (first | ((with_reducible refine gate_callee (f := 25) rfl ?_); refine goesL_ (some 20) rfl rfl Try.func25 (by kernel_rfl) rfl #[.int .i64 a0_7] rfl (by (try simp only [List.map_toArray, List.map_cons, List.map_nil]); first | done | rfl | (simp only [List.length_drop, List.length_take]; rfl)) ?_; (with_reducible refine (escritoireref06_block.calls a0_7 true _ A27.out).mono ?_); rintro e w' ⟨rfl, ⟨nd, rfl⟩⟩; refine ⟨_, rfl, ?_⟩))
                    go_roundg k1
                    case measure => have := HK1.out; omega
                    case rel => exact ⟨(wrap64 (3 + 1)), (by first | rfl | (simp; done) | (simp [*]; done) | kernel_rfl), H', ⟨by have := HK1.out; omega⟩, ⟨by (with_reducible repeat (first | refine blk_drewN ?_ _ | refine blk_drew ?_ | refine blk_alloc ?_ _)); exact BK192.out⟩, ⟨by repeat (first | (with_reducible first | exact HB.out | apply below_alloc | apply pw_below_drewN | apply below_drew1 | refine below_set ?_ GE192.out) | exact HB.out)⟩⟩
                  · replace c28 := Bool.eq_false_iff.mpr c28
                    subst c28
                    have H1 : (some false) = some r := by rw [if_neg (show ¬ (false = true) by decide)] at H; exact H
                    clear H
                    have H := H1
                    clear H1
                    obtain rfl := Option.some.inj H
                    have hcz30_0 : wr.cell? ⟨gb192, 0, none⟩ = some (.int .i64 a0_0) := (blk_cell BK192.out 0).trans rfl
                    have hcz30_1 : wr.cell? ⟨gb192, 1, none⟩ = some (.int .i64 a0_1) := (blk_cell BK192.out 1).trans rfl
                    have hcz30_2 : wr.cell? ⟨gb192, 2, none⟩ = some (.int .i64 a0_2) := (blk_cell BK192.out 2).trans rfl
                    have hcz30_3 : wr.cell? ⟨gb192, 3, none⟩ = some (.int .u64 a0_3) := (blk_cell BK192.out 3).trans rfl
                    have hcz30_4 : wr.cell? ⟨gb192, 4, none⟩ = some (.int .i64 a0_4) := (blk_cell BK192.out 4).trans rfl
                    have hcz30_5 : wr.cell? ⟨gb192, 5, none⟩ = some (.int .i64 a0_5) := (blk_cell BK192.out 5).trans rfl
                    have hcz30_6 : wr.cell? ⟨gb192, 6, none⟩ = some (.int .i64 a0_6) := (blk_cell BK192.out 6).trans rfl
                    have hcz30_7 : wr.cell? ⟨gb192, 7, none⟩ = some (.int .i64 a0_7) := (blk_cell BK192.out 7).trans rfl
                    have hcz30_8 : wr.cell? ⟨gb192, 8, none⟩ = some (.int .i64 a0_8) := (blk_cell BK192.out 8).trans rfl
                    have hcz30_9 : wr.cell? ⟨gb192, 9, none⟩ = some (.int .i64 a0_9) := (blk_cell BK192.out 9).trans rfl
                    have hfz30_0 := blk_frozen BK192.out 0
                    have hfz30_1 := blk_frozen BK192.out 1
                    have hfz30_2 := blk_frozen BK192.out 2
                    have hfz30_3 := blk_frozen BK192.out 3
                    have hfz30_4 := blk_frozen BK192.out 4
                    have hfz30_5 := blk_frozen BK192.out 5
                    have hfz30_6 := blk_frozen BK192.out 6
                    have hfz30_7 := blk_frozen BK192.out 7
                    have hfz30_8 := blk_frozen BK192.out 8
                    have hfz30_9 := blk_frozen BK192.out 9
                    go_wp2_with (first | ((with_reducible refine gate_callee (f := 25) rfl ?_); refine goesL_ (some 20) rfl rfl Try.func25 (by kernel_rfl) rfl #[.int .i64 a0_7] rfl (by (try simp only [List.map_toArray, List.map_cons, List.map_nil]); first | done | rfl | (simp only [List.length_drop, List.length_take]; rfl)) ?_; (with_reducible refine (escritoireref06_block.calls a0_7 false _ A27.out).mono ?_); rintro e w' ⟨rfl, ⟨nd, rfl⟩⟩; refine ⟨_, rfl, ?_⟩))
                    go_ret
                    exact ⟨by first | rfl | (simp [errW_none, errW_some] <;> rfl) | (simp [*, errW_none, errW_some] <;> rfl), by repeat (first | (with_reducible first | exact HB.out | apply below_alloc | apply pw_below_drewN | apply below_drew1 | refine below_set ?_ GE192.out) | exact HB.out)⟩
                · rw [if_neg c26] at H
                  by_cases c31 : x3_1 = 4
                  · subst c31
                    have H1 : ((escritoireref06_block.f a0_8).bind fun t207 => (if t207 = true then (escritoireref06_Right.l0 k1 (wrap64 (4 + 1)) a0_0 a0_1 a0_2 a0_3 a0_4 a0_5 a0_6 a0_7 a0_8 a0_9) else (some false))) = some r := by rw [if_pos rfl] at H; exact H
                    clear H
                    have H := H1
                    clear H1
                    replace H := Option.bind_eq_some_iff.mp H
                    obtain ⟨t207, A320, H⟩ := H
                    replace H : (if t207 = true then (escritoireref06_Right.l0 k1 (wrap64 (4 + 1)) a0_0 a0_1 a0_2 a0_3 a0_4 a0_5 a0_6 a0_7 a0_8 a0_9) else (some false)) = some r := H
                    have A32 := Aside0.mk A320
                    clear A320
                    by_cases c33 : t207 = true
                    · subst c33
                      have H1 : (escritoireref06_Right.l0 k1 (wrap64 (4 + 1)) a0_0 a0_1 a0_2 a0_3 a0_4 a0_5 a0_6 a0_7 a0_8 a0_9) = some r := by rw [if_pos rfl] at H; exact H
                      clear H
                      have H := H1
                      clear H1
                      have H' := Aside0.mk H
                      clear H
                      have hcz34_0 : wr.cell? ⟨gb192, 0, none⟩ = some (.int .i64 a0_0) := (blk_cell BK192.out 0).trans rfl
                      have hcz34_1 : wr.cell? ⟨gb192, 1, none⟩ = some (.int .i64 a0_1) := (blk_cell BK192.out 1).trans rfl
                      have hcz34_2 : wr.cell? ⟨gb192, 2, none⟩ = some (.int .i64 a0_2) := (blk_cell BK192.out 2).trans rfl
                      have hcz34_3 : wr.cell? ⟨gb192, 3, none⟩ = some (.int .u64 a0_3) := (blk_cell BK192.out 3).trans rfl
                      have hcz34_4 : wr.cell? ⟨gb192, 4, none⟩ = some (.int .i64 a0_4) := (blk_cell BK192.out 4).trans rfl
                      have hcz34_5 : wr.cell? ⟨gb192, 5, none⟩ = some (.int .i64 a0_5) := (blk_cell BK192.out 5).trans rfl
                      have hcz34_6 : wr.cell? ⟨gb192, 6, none⟩ = some (.int .i64 a0_6) := (blk_cell BK192.out 6).trans rfl
                      have hcz34_7 : wr.cell? ⟨gb192, 7, none⟩ = some (.int .i64 a0_7) := (blk_cell BK192.out 7).trans rfl
                      have hcz34_8 : wr.cell? ⟨gb192, 8, none⟩ = some (.int .i64 a0_8) := (blk_cell BK192.out 8).trans rfl
                      have hcz34_9 : wr.cell? ⟨gb192, 9, none⟩ = some (.int .i64 a0_9) := (blk_cell BK192.out 9).trans rfl
                      have hfz34_0 := blk_frozen BK192.out 0
                      have hfz34_1 := blk_frozen BK192.out 1
                      have hfz34_2 := blk_frozen BK192.out 2
                      have hfz34_3 := blk_frozen BK192.out 3
                      have hfz34_4 := blk_frozen BK192.out 4
                      have hfz34_5 := blk_frozen BK192.out 5
                      have hfz34_6 := blk_frozen BK192.out 6
                      have hfz34_7 := blk_frozen BK192.out 7
                      have hfz34_8 := blk_frozen BK192.out 8
                      have hfz34_9 := blk_frozen BK192.out 9
                      go_wp2_with (first | ((with_reducible refine gate_callee (f := 25) rfl ?_); refine goesL_ (some 20) rfl rfl Try.func25 (by kernel_rfl) rfl #[.int .i64 a0_8] rfl (by (try simp only [List.map_toArray, List.map_cons, List.map_nil]); first | done | rfl | (simp only [List.length_drop, List.length_take]; rfl)) ?_; (with_reducible refine (escritoireref06_block.calls a0_8 true _ A32.out).mono ?_); rintro e w' ⟨rfl, ⟨nd, rfl⟩⟩; refine ⟨_, rfl, ?_⟩))
                      go_roundg k1
                      case measure => have := HK1.out; omega
                      case rel => exact ⟨(wrap64 (4 + 1)), (by first | rfl | (simp; done) | (simp [*]; done) | kernel_rfl), H', ⟨by have := HK1.out; omega⟩, ⟨by (with_reducible repeat (first | refine blk_drewN ?_ _ | refine blk_drew ?_ | refine blk_alloc ?_ _)); exact BK192.out⟩, ⟨by repeat (first | (with_reducible first | exact HB.out | apply below_alloc | apply pw_below_drewN | apply below_drew1 | refine below_set ?_ GE192.out) | exact HB.out)⟩⟩
                    · replace c33 := Bool.eq_false_iff.mpr c33
                      subst c33
                      have H1 : (some false) = some r := by rw [if_neg (show ¬ (false = true) by decide)] at H; exact H
                      clear H
                      have H := H1
                      clear H1
                      obtain rfl := Option.some.inj H
                      have hcz35_0 : wr.cell? ⟨gb192, 0, none⟩ = some (.int .i64 a0_0) := (blk_cell BK192.out 0).trans rfl
                      have hcz35_1 : wr.cell? ⟨gb192, 1, none⟩ = some (.int .i64 a0_1) := (blk_cell BK192.out 1).trans rfl
                      have hcz35_2 : wr.cell? ⟨gb192, 2, none⟩ = some (.int .i64 a0_2) := (blk_cell BK192.out 2).trans rfl
                      have hcz35_3 : wr.cell? ⟨gb192, 3, none⟩ = some (.int .u64 a0_3) := (blk_cell BK192.out 3).trans rfl
                      have hcz35_4 : wr.cell? ⟨gb192, 4, none⟩ = some (.int .i64 a0_4) := (blk_cell BK192.out 4).trans rfl
                      have hcz35_5 : wr.cell? ⟨gb192, 5, none⟩ = some (.int .i64 a0_5) := (blk_cell BK192.out 5).trans rfl
                      have hcz35_6 : wr.cell? ⟨gb192, 6, none⟩ = some (.int .i64 a0_6) := (blk_cell BK192.out 6).trans rfl
                      have hcz35_7 : wr.cell? ⟨gb192, 7, none⟩ = some (.int .i64 a0_7) := (blk_cell BK192.out 7).trans rfl
                      have hcz35_8 : wr.cell? ⟨gb192, 8, none⟩ = some (.int .i64 a0_8) := (blk_cell BK192.out 8).trans rfl
                      have hcz35_9 : wr.cell? ⟨gb192, 9, none⟩ = some (.int .i64 a0_9) := (blk_cell BK192.out 9).trans rfl
                      have hfz35_0 := blk_frozen BK192.out 0
                      have hfz35_1 := blk_frozen BK192.out 1
                      have hfz35_2 := blk_frozen BK192.out 2
                      have hfz35_3 := blk_frozen BK192.out 3
                      have hfz35_4 := blk_frozen BK192.out 4
                      have hfz35_5 := blk_frozen BK192.out 5
                      have hfz35_6 := blk_frozen BK192.out 6
                      have hfz35_7 := blk_frozen BK192.out 7
                      have hfz35_8 := blk_frozen BK192.out 8
                      have hfz35_9 := blk_frozen BK192.out 9
                      go_wp2_with (first | ((with_reducible refine gate_callee (f := 25) rfl ?_); refine goesL_ (some 20) rfl rfl Try.func25 (by kernel_rfl) rfl #[.int .i64 a0_8] rfl (by (try simp only [List.map_toArray, List.map_cons, List.map_nil]); first | done | rfl | (simp only [List.length_drop, List.length_take]; rfl)) ?_; (with_reducible refine (escritoireref06_block.calls a0_8 false _ A32.out).mono ?_); rintro e w' ⟨rfl, ⟨nd, rfl⟩⟩; refine ⟨_, rfl, ?_⟩))
                      go_ret
                      exact ⟨by first | rfl | (simp [errW_none, errW_some] <;> rfl) | (simp [*, errW_none, errW_some] <;> rfl), by repeat (first | (with_reducible first | exact HB.out | apply below_alloc | apply pw_below_drewN | apply below_drew1 | refine below_set ?_ GE192.out) | exact HB.out)⟩
                  · rw [if_neg c31] at H
                    exact absurd H (by simp)
        · rw [if_neg c10] at H
          have c10b0 : decide (x3_1 < 5) = false := decide_eq_false c10
          clear c10
          by_cases c36 : a0_0 ≥ 1
          · rw [if_pos c36] at H
            have c36b0 : decide (1 ≤ a0_0) = true := decide_eq_true c36
            clear c36
            by_cases c37 : a0_0 ≤ 3
            · rw [if_pos c37] at H
              have c37b0 : decide (a0_0 ≤ 3) = true := decide_eq_true c37
              clear c37
              by_cases c38 : a0_1 ≥ 0
              · rw [if_pos c38] at H
                have c38b0 : decide (0 ≤ a0_1) = true := decide_eq_true c38
                clear c38
                by_cases c39 : a0_1 ≤ 255
                · rw [if_pos c39] at H
                  have c39b0 : decide (a0_1 ≤ 255) = true := decide_eq_true c39
                  clear c39
                  by_cases c40 : a0_2 ≥ 0
                  · rw [if_pos c40] at H
                    have c40b0 : decide (0 ≤ a0_2) = true := decide_eq_true c40
                    clear c40
                    by_cases c41 : a0_2 ≤ 2688
                    · rw [if_pos c41] at H
                      have c41b0 : decide (a0_2 ≤ 2688) = true := decide_eq_true c41
                      clear c41
                      replace H := Option.bind_eq_some_iff.mp H
                      obtain ⟨t208, A420, H⟩ := H
                      replace H : (some t208) = some r := H
                      have A42 := Aside0.mk A420
                      clear A420
                      obtain rfl := Option.some.inj H
                      have hcz43_0 : wr.cell? ⟨gb192, 0, none⟩ = some (.int .i64 a0_0) := (blk_cell BK192.out 0).trans rfl
                      have hcz43_1 : wr.cell? ⟨gb192, 1, none⟩ = some (.int .i64 a0_1) := (blk_cell BK192.out 1).trans rfl
                      have hcz43_2 : wr.cell? ⟨gb192, 2, none⟩ = some (.int .i64 a0_2) := (blk_cell BK192.out 2).trans rfl
                      have hcz43_3 : wr.cell? ⟨gb192, 3, none⟩ = some (.int .u64 a0_3) := (blk_cell BK192.out 3).trans rfl
                      have hcz43_4 : wr.cell? ⟨gb192, 4, none⟩ = some (.int .i64 a0_4) := (blk_cell BK192.out 4).trans rfl
                      have hcz43_5 : wr.cell? ⟨gb192, 5, none⟩ = some (.int .i64 a0_5) := (blk_cell BK192.out 5).trans rfl
                      have hcz43_6 : wr.cell? ⟨gb192, 6, none⟩ = some (.int .i64 a0_6) := (blk_cell BK192.out 6).trans rfl
                      have hcz43_7 : wr.cell? ⟨gb192, 7, none⟩ = some (.int .i64 a0_7) := (blk_cell BK192.out 7).trans rfl
                      have hcz43_8 : wr.cell? ⟨gb192, 8, none⟩ = some (.int .i64 a0_8) := (blk_cell BK192.out 8).trans rfl
                      have hcz43_9 : wr.cell? ⟨gb192, 9, none⟩ = some (.int .i64 a0_9) := (blk_cell BK192.out 9).trans rfl
                      have hfz43_0 := blk_frozen BK192.out 0
                      have hfz43_1 := blk_frozen BK192.out 1
                      have hfz43_2 := blk_frozen BK192.out 2
                      have hfz43_3 := blk_frozen BK192.out 3
                      have hfz43_4 := blk_frozen BK192.out 4
                      have hfz43_5 := blk_frozen BK192.out 5
                      have hfz43_6 := blk_frozen BK192.out 6
                      have hfz43_7 := blk_frozen BK192.out 7
                      have hfz43_8 := blk_frozen BK192.out 8
                      have hfz43_9 := blk_frozen BK192.out 9
                      go_wp2_with (first | (go_at_call 25; (with_reducible refine (escritoireref06_block.calls a0_9 t208 _ A42.out).mono ?_); rintro e w' ⟨rfl, ⟨nd, rfl⟩⟩))
                      go_ret
                      exact ⟨by first | rfl | (simp [errW_none, errW_some] <;> rfl) | (simp [*, errW_none, errW_some] <;> rfl), by repeat (first | (with_reducible first | exact HB.out | apply below_alloc | apply pw_below_drewN | apply below_drew1 | refine below_set ?_ GE192.out) | exact HB.out)⟩
                    · rw [if_neg c41] at H
                      have c41b0 : decide (a0_2 ≤ 2688) = false := decide_eq_false c41
                      clear c41
                      obtain rfl := Option.some.inj H
                      have hcz44_0 : wr.cell? ⟨gb192, 0, none⟩ = some (.int .i64 a0_0) := (blk_cell BK192.out 0).trans rfl
                      have hcz44_1 : wr.cell? ⟨gb192, 1, none⟩ = some (.int .i64 a0_1) := (blk_cell BK192.out 1).trans rfl
                      have hcz44_2 : wr.cell? ⟨gb192, 2, none⟩ = some (.int .i64 a0_2) := (blk_cell BK192.out 2).trans rfl
                      have hcz44_3 : wr.cell? ⟨gb192, 3, none⟩ = some (.int .u64 a0_3) := (blk_cell BK192.out 3).trans rfl
                      have hcz44_4 : wr.cell? ⟨gb192, 4, none⟩ = some (.int .i64 a0_4) := (blk_cell BK192.out 4).trans rfl
                      have hcz44_5 : wr.cell? ⟨gb192, 5, none⟩ = some (.int .i64 a0_5) := (blk_cell BK192.out 5).trans rfl
                      have hcz44_6 : wr.cell? ⟨gb192, 6, none⟩ = some (.int .i64 a0_6) := (blk_cell BK192.out 6).trans rfl
                      have hcz44_7 : wr.cell? ⟨gb192, 7, none⟩ = some (.int .i64 a0_7) := (blk_cell BK192.out 7).trans rfl
                      have hcz44_8 : wr.cell? ⟨gb192, 8, none⟩ = some (.int .i64 a0_8) := (blk_cell BK192.out 8).trans rfl
                      have hcz44_9 : wr.cell? ⟨gb192, 9, none⟩ = some (.int .i64 a0_9) := (blk_cell BK192.out 9).trans rfl
                      have hfz44_0 := blk_frozen BK192.out 0
                      have hfz44_1 := blk_frozen BK192.out 1
                      have hfz44_2 := blk_frozen BK192.out 2
                      have hfz44_3 := blk_frozen BK192.out 3
                      have hfz44_4 := blk_frozen BK192.out 4
                      have hfz44_5 := blk_frozen BK192.out 5
                      have hfz44_6 := blk_frozen BK192.out 6
                      have hfz44_7 := blk_frozen BK192.out 7
                      have hfz44_8 := blk_frozen BK192.out 8
                      have hfz44_9 := blk_frozen BK192.out 9
                      go_wp2
                      go_ret
                      exact ⟨by first | rfl | (simp [errW_none, errW_some] <;> rfl) | (simp [*, errW_none, errW_some] <;> rfl), by repeat (first | (with_reducible first | exact HB.out | apply below_alloc | apply pw_below_drewN | apply below_drew1 | refine below_set ?_ GE192.out) | exact HB.out)⟩
                  · rw [if_neg c40] at H
                    have c40b0 : decide (0 ≤ a0_2) = false := decide_eq_false c40
                    clear c40
                    obtain rfl := Option.some.inj H
                    have hcz45_0 : wr.cell? ⟨gb192, 0, none⟩ = some (.int .i64 a0_0) := (blk_cell BK192.out 0).trans rfl
                    have hcz45_1 : wr.cell? ⟨gb192, 1, none⟩ = some (.int .i64 a0_1) := (blk_cell BK192.out 1).trans rfl
                    have hcz45_2 : wr.cell? ⟨gb192, 2, none⟩ = some (.int .i64 a0_2) := (blk_cell BK192.out 2).trans rfl
                    have hcz45_3 : wr.cell? ⟨gb192, 3, none⟩ = some (.int .u64 a0_3) := (blk_cell BK192.out 3).trans rfl
                    have hcz45_4 : wr.cell? ⟨gb192, 4, none⟩ = some (.int .i64 a0_4) := (blk_cell BK192.out 4).trans rfl
                    have hcz45_5 : wr.cell? ⟨gb192, 5, none⟩ = some (.int .i64 a0_5) := (blk_cell BK192.out 5).trans rfl
                    have hcz45_6 : wr.cell? ⟨gb192, 6, none⟩ = some (.int .i64 a0_6) := (blk_cell BK192.out 6).trans rfl
                    have hcz45_7 : wr.cell? ⟨gb192, 7, none⟩ = some (.int .i64 a0_7) := (blk_cell BK192.out 7).trans rfl
                    have hcz45_8 : wr.cell? ⟨gb192, 8, none⟩ = some (.int .i64 a0_8) := (blk_cell BK192.out 8).trans rfl
                    have hcz45_9 : wr.cell? ⟨gb192, 9, none⟩ = some (.int .i64 a0_9) := (blk_cell BK192.out 9).trans rfl
                    have hfz45_0 := blk_frozen BK192.out 0
                    have hfz45_1 := blk_frozen BK192.out 1
                    have hfz45_2 := blk_frozen BK192.out 2
                    have hfz45_3 := blk_frozen BK192.out 3
                    have hfz45_4 := blk_frozen BK192.out 4
                    have hfz45_5 := blk_frozen BK192.out 5
                    have hfz45_6 := blk_frozen BK192.out 6
                    have hfz45_7 := blk_frozen BK192.out 7
                    have hfz45_8 := blk_frozen BK192.out 8
                    have hfz45_9 := blk_frozen BK192.out 9
                    go_wp2
                    go_ret
                    exact ⟨by first | rfl | (simp [errW_none, errW_some] <;> rfl) | (simp [*, errW_none, errW_some] <;> rfl), by repeat (first | (with_reducible first | exact HB.out | apply below_alloc | apply pw_below_drewN | apply below_drew1 | refine below_set ?_ GE192.out) | exact HB.out)⟩
                · rw [if_neg c39] at H
                  have c39b0 : decide (a0_1 ≤ 255) = false := decide_eq_false c39
                  clear c39
                  obtain rfl := Option.some.inj H
                  have hcz46_0 : wr.cell? ⟨gb192, 0, none⟩ = some (.int .i64 a0_0) := (blk_cell BK192.out 0).trans rfl
                  have hcz46_1 : wr.cell? ⟨gb192, 1, none⟩ = some (.int .i64 a0_1) := (blk_cell BK192.out 1).trans rfl
                  have hcz46_2 : wr.cell? ⟨gb192, 2, none⟩ = some (.int .i64 a0_2) := (blk_cell BK192.out 2).trans rfl
                  have hcz46_3 : wr.cell? ⟨gb192, 3, none⟩ = some (.int .u64 a0_3) := (blk_cell BK192.out 3).trans rfl
                  have hcz46_4 : wr.cell? ⟨gb192, 4, none⟩ = some (.int .i64 a0_4) := (blk_cell BK192.out 4).trans rfl
                  have hcz46_5 : wr.cell? ⟨gb192, 5, none⟩ = some (.int .i64 a0_5) := (blk_cell BK192.out 5).trans rfl
                  have hcz46_6 : wr.cell? ⟨gb192, 6, none⟩ = some (.int .i64 a0_6) := (blk_cell BK192.out 6).trans rfl
                  have hcz46_7 : wr.cell? ⟨gb192, 7, none⟩ = some (.int .i64 a0_7) := (blk_cell BK192.out 7).trans rfl
                  have hcz46_8 : wr.cell? ⟨gb192, 8, none⟩ = some (.int .i64 a0_8) := (blk_cell BK192.out 8).trans rfl
                  have hcz46_9 : wr.cell? ⟨gb192, 9, none⟩ = some (.int .i64 a0_9) := (blk_cell BK192.out 9).trans rfl
                  have hfz46_0 := blk_frozen BK192.out 0
                  have hfz46_1 := blk_frozen BK192.out 1
                  have hfz46_2 := blk_frozen BK192.out 2
                  have hfz46_3 := blk_frozen BK192.out 3
                  have hfz46_4 := blk_frozen BK192.out 4
                  have hfz46_5 := blk_frozen BK192.out 5
                  have hfz46_6 := blk_frozen BK192.out 6
                  have hfz46_7 := blk_frozen BK192.out 7
                  have hfz46_8 := blk_frozen BK192.out 8
                  have hfz46_9 := blk_frozen BK192.out 9
                  go_wp2
                  go_ret
                  exact ⟨by first | rfl | (simp [errW_none, errW_some] <;> rfl) | (simp [*, errW_none, errW_some] <;> rfl), by repeat (first | (with_reducible first | exact HB.out | apply below_alloc | apply pw_below_drewN | apply below_drew1 | refine below_set ?_ GE192.out) | exact HB.out)⟩
              · rw [if_neg c38] at H
                have c38b0 : decide (0 ≤ a0_1) = false := decide_eq_false c38
                clear c38
                obtain rfl := Option.some.inj H
                have hcz47_0 : wr.cell? ⟨gb192, 0, none⟩ = some (.int .i64 a0_0) := (blk_cell BK192.out 0).trans rfl
                have hcz47_1 : wr.cell? ⟨gb192, 1, none⟩ = some (.int .i64 a0_1) := (blk_cell BK192.out 1).trans rfl
                have hcz47_2 : wr.cell? ⟨gb192, 2, none⟩ = some (.int .i64 a0_2) := (blk_cell BK192.out 2).trans rfl
                have hcz47_3 : wr.cell? ⟨gb192, 3, none⟩ = some (.int .u64 a0_3) := (blk_cell BK192.out 3).trans rfl
                have hcz47_4 : wr.cell? ⟨gb192, 4, none⟩ = some (.int .i64 a0_4) := (blk_cell BK192.out 4).trans rfl
                have hcz47_5 : wr.cell? ⟨gb192, 5, none⟩ = some (.int .i64 a0_5) := (blk_cell BK192.out 5).trans rfl
                have hcz47_6 : wr.cell? ⟨gb192, 6, none⟩ = some (.int .i64 a0_6) := (blk_cell BK192.out 6).trans rfl
                have hcz47_7 : wr.cell? ⟨gb192, 7, none⟩ = some (.int .i64 a0_7) := (blk_cell BK192.out 7).trans rfl
                have hcz47_8 : wr.cell? ⟨gb192, 8, none⟩ = some (.int .i64 a0_8) := (blk_cell BK192.out 8).trans rfl
                have hcz47_9 : wr.cell? ⟨gb192, 9, none⟩ = some (.int .i64 a0_9) := (blk_cell BK192.out 9).trans rfl
                have hfz47_0 := blk_frozen BK192.out 0
                have hfz47_1 := blk_frozen BK192.out 1
                have hfz47_2 := blk_frozen BK192.out 2
                have hfz47_3 := blk_frozen BK192.out 3
                have hfz47_4 := blk_frozen BK192.out 4
                have hfz47_5 := blk_frozen BK192.out 5
                have hfz47_6 := blk_frozen BK192.out 6
                have hfz47_7 := blk_frozen BK192.out 7
                have hfz47_8 := blk_frozen BK192.out 8
                have hfz47_9 := blk_frozen BK192.out 9
                go_wp2
                go_ret
                exact ⟨by first | rfl | (simp [errW_none, errW_some] <;> rfl) | (simp [*, errW_none, errW_some] <;> rfl), by repeat (first | (with_reducible first | exact HB.out | apply below_alloc | apply pw_below_drewN | apply below_drew1 | refine below_set ?_ GE192.out) | exact HB.out)⟩
            · rw [if_neg c37] at H
              have c37b0 : decide (a0_0 ≤ 3) = false := decide_eq_false c37
              clear c37
              obtain rfl := Option.some.inj H
              have hcz48_0 : wr.cell? ⟨gb192, 0, none⟩ = some (.int .i64 a0_0) := (blk_cell BK192.out 0).trans rfl
              have hcz48_1 : wr.cell? ⟨gb192, 1, none⟩ = some (.int .i64 a0_1) := (blk_cell BK192.out 1).trans rfl
              have hcz48_2 : wr.cell? ⟨gb192, 2, none⟩ = some (.int .i64 a0_2) := (blk_cell BK192.out 2).trans rfl
              have hcz48_3 : wr.cell? ⟨gb192, 3, none⟩ = some (.int .u64 a0_3) := (blk_cell BK192.out 3).trans rfl
              have hcz48_4 : wr.cell? ⟨gb192, 4, none⟩ = some (.int .i64 a0_4) := (blk_cell BK192.out 4).trans rfl
              have hcz48_5 : wr.cell? ⟨gb192, 5, none⟩ = some (.int .i64 a0_5) := (blk_cell BK192.out 5).trans rfl
              have hcz48_6 : wr.cell? ⟨gb192, 6, none⟩ = some (.int .i64 a0_6) := (blk_cell BK192.out 6).trans rfl
              have hcz48_7 : wr.cell? ⟨gb192, 7, none⟩ = some (.int .i64 a0_7) := (blk_cell BK192.out 7).trans rfl
              have hcz48_8 : wr.cell? ⟨gb192, 8, none⟩ = some (.int .i64 a0_8) := (blk_cell BK192.out 8).trans rfl
              have hcz48_9 : wr.cell? ⟨gb192, 9, none⟩ = some (.int .i64 a0_9) := (blk_cell BK192.out 9).trans rfl
              have hfz48_0 := blk_frozen BK192.out 0
              have hfz48_1 := blk_frozen BK192.out 1
              have hfz48_2 := blk_frozen BK192.out 2
              have hfz48_3 := blk_frozen BK192.out 3
              have hfz48_4 := blk_frozen BK192.out 4
              have hfz48_5 := blk_frozen BK192.out 5
              have hfz48_6 := blk_frozen BK192.out 6
              have hfz48_7 := blk_frozen BK192.out 7
              have hfz48_8 := blk_frozen BK192.out 8
              have hfz48_9 := blk_frozen BK192.out 9
              go_wp2
              go_ret
              exact ⟨by first | rfl | (simp [errW_none, errW_some] <;> rfl) | (simp [*, errW_none, errW_some] <;> rfl), by repeat (first | (with_reducible first | exact HB.out | apply below_alloc | apply pw_below_drewN | apply below_drew1 | refine below_set ?_ GE192.out) | exact HB.out)⟩
          · rw [if_neg c36] at H
            have c36b0 : decide (1 ≤ a0_0) = false := decide_eq_false c36
            clear c36
            obtain rfl := Option.some.inj H
            have hcz49_0 : wr.cell? ⟨gb192, 0, none⟩ = some (.int .i64 a0_0) := (blk_cell BK192.out 0).trans rfl
            have hcz49_1 : wr.cell? ⟨gb192, 1, none⟩ = some (.int .i64 a0_1) := (blk_cell BK192.out 1).trans rfl
            have hcz49_2 : wr.cell? ⟨gb192, 2, none⟩ = some (.int .i64 a0_2) := (blk_cell BK192.out 2).trans rfl
            have hcz49_3 : wr.cell? ⟨gb192, 3, none⟩ = some (.int .u64 a0_3) := (blk_cell BK192.out 3).trans rfl
            have hcz49_4 : wr.cell? ⟨gb192, 4, none⟩ = some (.int .i64 a0_4) := (blk_cell BK192.out 4).trans rfl
            have hcz49_5 : wr.cell? ⟨gb192, 5, none⟩ = some (.int .i64 a0_5) := (blk_cell BK192.out 5).trans rfl
            have hcz49_6 : wr.cell? ⟨gb192, 6, none⟩ = some (.int .i64 a0_6) := (blk_cell BK192.out 6).trans rfl
            have hcz49_7 : wr.cell? ⟨gb192, 7, none⟩ = some (.int .i64 a0_7) := (blk_cell BK192.out 7).trans rfl
            have hcz49_8 : wr.cell? ⟨gb192, 8, none⟩ = some (.int .i64 a0_8) := (blk_cell BK192.out 8).trans rfl
            have hcz49_9 : wr.cell? ⟨gb192, 9, none⟩ = some (.int .i64 a0_9) := (blk_cell BK192.out 9).trans rfl
            have hfz49_0 := blk_frozen BK192.out 0
            have hfz49_1 := blk_frozen BK192.out 1
            have hfz49_2 := blk_frozen BK192.out 2
            have hfz49_3 := blk_frozen BK192.out 3
            have hfz49_4 := blk_frozen BK192.out 4
            have hfz49_5 := blk_frozen BK192.out 5
            have hfz49_6 := blk_frozen BK192.out 6
            have hfz49_7 := blk_frozen BK192.out 7
            have hfz49_8 := blk_frozen BK192.out 8
            have hfz49_9 := blk_frozen BK192.out 9
            go_wp2
            go_ret
            exact ⟨by first | rfl | (simp [errW_none, errW_some] <;> rfl) | (simp [*, errW_none, errW_some] <;> rfl), by repeat (first | (with_reducible first | exact HB.out | apply below_alloc | apply pw_below_drewN | apply below_drew1 | refine below_set ?_ GE192.out) | exact HB.out)⟩

end Go.Proofs.Ytdcmahndbmonbaa.Print
