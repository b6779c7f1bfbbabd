/- A card's numbers, as its fields have them: a list of nine. -/
import Derived.Test.YtpkfdoefpmgfiaaPrint0
import Derived.WalkSpells
namespace Go.Proofs.Ytpkfdoefpmgfiaa.Print
open Go.RowKit Go.Proofs.YtpkfdoefpmgfiaaW.PrintWords Go.Proofs.YtpkfdoefpmgfiaaW.PrintLast Go.Proofs.YtpkfdoefpmgfiaaW.PrintMore
set_option linter.unusedVariables false
theorem info_intN : (Try.prog.info? 3).map (fun i => (i.zero, i.size, i.bytes)) = some (some (.int .i64 0), 1, 8) := by kernel_rfl
def numsTo (a0 a1 a2 a4 a5 a6 a7 a8 : Int) : Nat → List Int
  | 0 => [a0, a1, a2]
  | 1 => [a0, a1, a2, wrap64 (a4 + 1)]
  | 2 => [a0, a1, a2, wrap64 (a4 + 1), wrap64 (a5 + 1)]
  | 3 => [a0, a1, a2, wrap64 (a4 + 1), wrap64 (a5 + 1), wrap64 (a6 + 1)]
  | 4 => [a0, a1, a2, wrap64 (a4 + 1), wrap64 (a5 + 1), wrap64 (a6 + 1), wrap64 (a7 + 1)]
  | _ => [a0, a1, a2, wrap64 (a4 + 1), wrap64 (a5 + 1), wrap64 (a6 + 1), wrap64 (a7 + 1), wrap64 (a8 + 1)]
def numAt (a4 a5 a6 a7 a8 : Int) : Nat → Int
  | 0 => a4 | 1 => a5 | 2 => a6 | 3 => a7 | _ => a8
theorem numsTo_succ (a0 a1 a2 a4 a5 a6 a7 a8 : Int) (m : Nat) (h : m < 5) : numsTo a0 a1 a2 a4 a5 a6 a7 a8 (m + 1) = numsTo a0 a1 a2 a4 a5 a6 a7 a8 m ++ [wrap64 (numAt a4 a5 a6 a7 a8 m + 1)] := by
  rcases m with _ | _ | _ | _ | _ | m
  · rfl
  · rfl
  · rfl
  · rfl
  · rfl
  · omega
theorem numsTo_len (a0 a1 a2 a4 a5 a6 a7 a8 : Int) (m : Nat) (h : m ≤ 5) : (numsTo a0 a1 a2 a4 a5 a6 a7 a8 m).length = m + 3 := by
  rcases m with _ | _ | _ | _ | _ | m
  · rfl
  · rfl
  · rfl
  · rfl
  · rfl
  · obtain rfl : m = 0 := by omega
    rfl
theorem index_arr (a4 a5 a6 a7 a8 : Int) (W : World) (m : Nat) (h : m < 5) : (Instr.index 42 (.agg #[.int .i64 a4, .int .i64 a5, .int .i64 a6, .int .i64 a7, .int .i64 a8]) (.int .i64 (m : Int))).run Try.prog W = .ok (.int .i64 (numAt a4 a5 a6 a7 a8 m)) W := by
  rcases m with _ | _ | _ | _ | _ | m
  · kernel_rfl
  · kernel_rfl
  · kernel_rfl
  · kernel_rfl
  · kernel_rfl
  · omega
def cards_numbers.f (a0_0 a0_1 a0_2 a0_3 a0_4 a0_5 a0_6 a0_7 a0_8 a0_9 : Int) : Option (List Int) := some (numsTo a0_0 a0_1 a0_2 a0_4 a0_5 a0_6 a0_7 a0_8 5 ++ [wrap64 (a0_9 + 1)])
set_option maxHeartbeats 1000000 in
theorem cards_numbers.calls (a0_0 a0_1 a0_2 a0_3 a0_4 a0_5 a0_6 a0_7 a0_8 a0_9 : Int) (r : List Int) (w : World) (h : cards_numbers.f a0_0 a0_1 a0_2 a0_3 a0_4 a0_5 a0_6 a0_7 a0_8 a0_9 = some r) :
    Calls Try.prog 54 #[.agg #[.int .i64 a0_0, .int .i64 a0_1, .int .i64 a0_2, .int .u64 a0_3, .int .i64 a0_4, .int .i64 a0_5, .int .i64 a0_6, .int .i64 a0_7, .int .i64 a0_8, .int .i64 a0_9]] w fun e w' => ∃ v0_ : Value, e = .returned (v0_) ∧ Kd.R (Kd.int .i64) 3 w' w.heap.size (fun _ => True) v0_ r ∧ Below w.heap.size w w' := by
  obtain rfl := Option.some.inj h
  clear h
  have hu23 := Try.underlying42
  have HB := Aside0.mk (Below.refl w.heap.size w)
  go_enter Try.func54, Try.ntmps54
  go_wp2_with (first
    | ((with_reducible refine gate_dst (N := 1) rfl ?_); refine box_event ?hg (N := 1) ?hd (cs := #[.int .i64 a0_0, .int .i64 a0_1, .int .i64 a0_2, .int .u64 a0_3, .int .i64 a0_4, .int .i64 a0_5, .int .i64 a0_6, .int .i64 a0_7, .int .i64 a0_8, .int .i64 a0_9]) (t := 44) ?hr ?_; (case hd => rfl); (case hg => rfl); (case hr => first | (go_simp; done) | (go_simp; rfl)); intro g hg w4 hbox hb; have BK := Aside0.mk hbox; have GE := Aside0.mk (show w.heap.size ≤ g by rw [hg]; exact Nat.le_refl _); clear hg hbox; have HB1 := Aside0.mk hb; clear hb HB; have hc0 : w4.cell? ⟨g, 0, none⟩ = some (.int .i64 a0_0) := (blk_cell BK.out 0).trans rfl; have hc1 : w4.cell? ⟨g, 1, none⟩ = some (.int .i64 a0_1) := (blk_cell BK.out 1).trans rfl; have hc2 : w4.cell? ⟨g, 2, none⟩ = some (.int .i64 a0_2) := (blk_cell BK.out 2).trans rfl; have hc4 : w4.cell? ⟨g, 4, none⟩ = some (.int .i64 a0_4) := (blk_cell BK.out 4).trans rfl; have hc5 : w4.cell? ⟨g, 5, none⟩ = some (.int .i64 a0_5) := (blk_cell BK.out 5).trans rfl; have hc6 : w4.cell? ⟨g, 6, none⟩ = some (.int .i64 a0_6) := (blk_cell BK.out 6).trans rfl; have hc7 : w4.cell? ⟨g, 7, none⟩ = some (.int .i64 a0_7) := (blk_cell BK.out 7).trans rfl; have hc8 : w4.cell? ⟨g, 8, none⟩ = some (.int .i64 a0_8) := (blk_cell BK.out 8).trans rfl)
    | ((with_reducible refine gate_dst (N := 12) rfl ?_); refine Kd.R_lit (Kd.int .i64) _ 3 ?hg (N := 12) ?hd (xs := [a0_0, a0_1, a0_2]) (inner := [.int .i64 a0_0, .int .i64 a0_1, .int .i64 a0_2]) (ok := fun _ => True) (okp := fun _ => True) ?hr ?hp (fun _ hk => hk) trivial (Below.refl _ _) (Nat.le_refl _) (by simp) ?_; (case hd => rfl); (case hg => rfl); (case hr => first | (go_simp; done) | (go_simp; rfl)); (case hp => exact (Reps.one rfl (Reps.one rfl (Reps.one rfl (Reps.none _ _))))); intro v12 w5 ho hb hg_ hnew_; have HO := Aside0.mk (Kd.R_lower ho (below_size HB1.out)); have HB2 := Aside0.mk (below_step HB1.out hb); have BK2 := Aside0.mk (blk_below BK.out hb); clear ho hb hg_ hnew_ HB1 BK hc0 hc1 hc2 hc4 hc5 hc6 hc7 hc8; have hc4 : w5.cell? ⟨g, 4, none⟩ = some (.int .i64 a0_4) := (blk_cell BK2.out 4).trans rfl; have hc5 : w5.cell? ⟨g, 5, none⟩ = some (.int .i64 a0_5) := (blk_cell BK2.out 5).trans rfl; have hc6 : w5.cell? ⟨g, 6, none⟩ = some (.int .i64 a0_6) := (blk_cell BK2.out 6).trans rfl; have hc7 : w5.cell? ⟨g, 7, none⟩ = some (.int .i64 a0_7) := (blk_cell BK2.out 7).trans rfl; have hc8 : w5.cell? ⟨g, 8, none⟩ = some (.int .i64 a0_8) := (blk_cell BK2.out 8).trans rfl))
  go_loopg [3, 15] 5 (fun gk v3 v15 wr => ∃ m : Nat, v15 = .int .i64 m ∧ m ≤ 5 ∧ 5 - m ≤ gk ∧ Aside0 (Kd.R (Kd.int .i64) 3 wr w.heap.size (fun _ => True) v3 (numsTo a0_0 a0_1 a0_2 a0_4 a0_5 a0_6 a0_7 a0_8 m)) ∧ Aside0 (wr.heap[g]? = some (.cells #[.int .i64 a0_0, .int .i64 a0_1, .int .i64 a0_2, .int .u64 a0_3, .int .i64 a0_4, .int .i64 a0_5, .int .i64 a0_6, .int .i64 a0_7, .int .i64 a0_8, .int .i64 a0_9] 44 (0, 0))) ∧ Aside0 (Below w.heap.size w wr))
  case atStart => exact ⟨0, rfl, by omega, by omega, HO, BK2, HB2⟩
  case round =>
    obtain ⟨m, rfl, hm, hgk, HO, BK, HB⟩ := hrel
    by_cases hlt : m < 5
    · have hltz : (m : Int) < 5 := by omega
      have hix := index_arr a0_4 a0_5 a0_6 a0_7 a0_8 wr m hlt
      have HL := Aside0.mk (numsTo_len a0_0 a0_1 a0_2 a0_4 a0_5 a0_6 a0_7 a0_8 m hm)
      have HS := Aside0.mk (numsTo_succ a0_0 a0_1 a0_2 a0_4 a0_5 a0_6 a0_7 a0_8 m hlt)
      go_wp2_with (first | ((with_reducible refine gate_builtin (b := .append) (xs := #[.tmp 18, .tmp 21]) rfl ?_); at_builtin; refine Kd.R_append (Kd.int .i64) (w0 := w) w.heap.size rfl (.tmp 18) (.tmp 21) 31 3 (.int .i64 0) 8 rfl Try.underlying31 info_intN rfl (by decide) (by omega) _ (numsTo a0_0 a0_1 a0_2 a0_4 a0_5 a0_6 a0_7 a0_8 m) (wrap64 (numAt a0_4 a0_5 a0_6 a0_7 a0_8 m + 1)) [.int .i64 (wrap64 (numAt a0_4 a0_5 a0_6 a0_7 a0_8 m + 1))] (fun _ => True) (fun _ => False) rfl rfl ?aP (fun _ hk => hk.elim) ?aF ?aO ?aB ?aS ?aL ?_; (case aP => rfl); (case aB => exact (by repeat (first | (with_reducible first | exact HB.out | apply below_alloc) | exact HB.out))); (case aF => exact (fun _ _ => trivial)); (case aO => exact (by (with_reducible repeat (first | apply Kd.R_alloc)); exact HO.out)); (case aS => exact (below_size (by repeat (first | (with_reducible first | exact HB.out | apply below_alloc) | exact HB.out)))); (case aL => rw [HL.out]; omega); intro v7 w7 ho hb hg hat7; have HO7 := Aside0.mk ho; have HB7 := Aside0.mk hb; have HG7 := Aside0.mk hg; clear ho hb hg hat7))
      go_roundg (5 - (m + 1))
      case measure => omega
      case rel => exact ⟨m + 1, by go_num, by omega, by omega, ⟨by rw [HS.out]; exact HO7.out⟩, ⟨blk_grown (by (with_reducible repeat (first | refine blk_alloc ?_ _)); exact BK.out) HG7.out (Kd.R_ne HO.out BK.out (by decide))⟩, HB7⟩
    · obtain rfl : m = 5 := by omega
      have hc9 : wr.cell? ⟨g, 9, none⟩ = some (.int .i64 a0_9) := (blk_cell BK.out 9).trans rfl
      have HL := Aside0.mk (numsTo_len a0_0 a0_1 a0_2 a0_4 a0_5 a0_6 a0_7 a0_8 5 (by omega))
      go_wp2_with (first | ((with_reducible refine gate_builtin (b := .append) (xs := #[.tmp 24, .tmp 28]) rfl ?_); at_builtin; refine Kd.R_append (Kd.int .i64) (w0 := w) w.heap.size rfl (.tmp 24) (.tmp 28) 31 3 (.int .i64 0) 8 rfl Try.underlying31 info_intN rfl (by decide) (by omega) _ (numsTo a0_0 a0_1 a0_2 a0_4 a0_5 a0_6 a0_7 a0_8 5) (wrap64 (a0_9 + 1)) [.int .i64 (wrap64 (a0_9 + 1))] (fun _ => True) (fun _ => False) rfl rfl ?aP (fun _ hk => hk.elim) ?aF ?aO ?aB ?aS ?aL ?_; (case aP => rfl); (case aB => exact (by repeat (first | (with_reducible first | exact HB.out | apply below_alloc) | exact HB.out))); (case aF => exact (fun _ _ => trivial)); (case aO => exact (by (with_reducible repeat (first | apply Kd.R_alloc)); exact HO.out)); (case aS => exact (below_size (by repeat (first | (with_reducible first | exact HB.out | apply below_alloc) | exact HB.out)))); (case aL => rw [HL.out]; omega); intro v7 w7 ho hb hg hat7; have HO7 := Aside0.mk ho; have HB7 := Aside0.mk hb; clear ho hb hg hat7))
      go_ret
      exact ⟨_, rfl, HO7.out, HB7.out⟩
end Go.Proofs.Ytpkfdoefpmgfiaa.Print
