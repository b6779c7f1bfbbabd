/- A card's numbers, as its fields have them: a list of nine. -/
import Derived.Test.YtkbhilhefnahpaaGreatPrint0
import Derived.WalkSpells
namespace Go.Proofs.YtkbhilhefnahpaaGreat.Print
open Go.RowKit Go.Proofs.YtkbhilhefnahpaaGreatW.PrintWords Go.Proofs.YtkbhilhefnahpaaGreatW.PrintLast Go.Proofs.YtkbhilhefnahpaaGreatW.PrintMore
set_option linter.unusedVariables false
theorem info_intN : (Tryz.prog.info? 3).map (fun i => (i.zero, i.size, i.bytes)) = some (some (.int .i64 0), 1, 8) := by kernel_rfl
def numsTo (a0 a1 a2 a4 a5 a6 a7 a8 : Int) : Nat → List Int
 | 0 => [a0, a1, a2]
 | 1 => [a0, a1, a2, wrap64 (a4 + 1)]
 | 2 => [a0, a1, a2, wrap64 (a4 + 1), wrap64 (a5 + 1)]
 | 3 => [a0, a1, a2, wrap64 (a4 + 1), wrap64 (a5 + 1), wrap64 (a6 + 1)]
 | 4 => [a0, a1, a2, wrap64 (a4 + 1), wrap64 (a5 + 1), wrap64 (a6 + 1), wrap64 (a7 + 1)]
 | _ => [a0, a1, a2, wrap64 (a4 + 1), wrap64 (a5 + 1), wrap64 (a6 + 1), wrap64 (a7 + 1), wrap64 (a8 + 1)]
def numAt (a4 a5 a6 a7 a8 : Int) : Nat → Int
 | 0 => a4 | 1 => a5 | 2 => a6 | 3 => a7 | _ => a8
theorem numsTo_succ (a0 a1 a2 a4 a5 a6 a7 a8 : Int) (m : Nat) (h : m < 5) : numsTo a0 a1 a2 a4 a5 a6 a7 a8 (m + 1) = numsTo a0 a1 a2 a4 a5 a6 a7 a8 m ++ [wrap64 (numAt a4 a5 a6 a7 a8 m + 1)] := by
 rcases m with _ | _ | _ | _ | _ | m
 ·rfl
 ·rfl
 ·rfl
 ·rfl
 ·rfl
 ·omega
theorem numsTo_len (a0 a1 a2 a4 a5 a6 a7 a8 : Int) (m : Nat) (h : m ≤ 5) : (numsTo a0 a1 a2 a4 a5 a6 a7 a8 m).length = m + 3 := by
 rcases m with _ | _ | _ | _ | _ | m
 ·rfl
 ·rfl
 ·rfl
 ·rfl
 ·rfl
 ·obtain rfl : m = 0 := by omega
  rfl
theorem index_arr (a4 a5 a6 a7 a8 : Int) (W : World) (m : Nat) (h : m < 5) : (Instr.index 35 (.agg #[.int .i64 a4, .int .i64 a5, .int .i64 a6, .int .i64 a7, .int .i64 a8]) (.int .i64 (m : Int))).run Tryz.prog W = .ok (.int .i64 (numAt a4 a5 a6 a7 a8 m)) W := by
 rcases m with _ | _ | _ | _ | _ | m
 ·kernel_rfl
 ·kernel_rfl
 ·kernel_rfl
 ·kernel_rfl
 ·kernel_rfl
 ·omega
def cards_numbers.f (a0_0 a0_1 a0_2 a0_3 a0_4 a0_5 a0_6 a0_7 a0_8 a0_9 : Int) : Option (List Int) := some (numsTo a0_0 a0_1 a0_2 a0_4 a0_5 a0_6 a0_7 a0_8 5 ++ [wrap64 (a0_9 + 1)])
set_option maxHeartbeats 1000000 in
theorem cards_numbers.calls (a0_0 a0_1 a0_2 a0_3 a0_4 a0_5 a0_6 a0_7 a0_8 a0_9 : Int) (r : List Int) (w : World) (h : cards_numbers.f a0_0 a0_1 a0_2 a0_3 a0_4 a0_5 a0_6 a0_7 a0_8 a0_9 = some r) :
  Calls Tryz.prog 72 #[.agg #[.int .i64 a0_0, .int .i64 a0_1, .int .i64 a0_2, .int .u64 a0_3, .int .i64 a0_4, .int .i64 a0_5, .int .i64 a0_6, .int .i64 a0_7, .int .i64 a0_8, .int .i64 a0_9]] w fun e w' => ∃ v0_ : Value, e = .returned (v0_) ∧ Kd.R (Kd.int .i64) 3 w' w.heap.size (fun _ => True) v0_ r ∧ Below w.heap.size w w' := by
 obtain rfl := Option.some.inj h
 clear h
 have hu23 := Tryz.underlying35
 have HB := ze.mk (Below.refl w.heap.size w)
 go_enter Tryz.func72, Tryz.ntmps72
 go_wp2_with (first
  | ((with_reducible refine zD (N := 1) rfl ?_); refine zC ?hg (N := 1) ?hd (cs := #[.int .i64 a0_0, .int .i64 a0_1, .int .i64 a0_2, .int .u64 a0_3, .int .i64 a0_4, .int .i64 a0_5, .int .i64 a0_6, .int .i64 a0_7, .int .i64 a0_8, .int .i64 a0_9]) (t := 37) ?hr ?_; (case hd => rfl); (case hg => rfl); (case hr => first | (go_simp; done) | (go_simp; rfl)); intro g hg w4 hbox hb; have BK := ze.mk hbox; have GE := ze.mk (show w.heap.size ≤ g by rw [hg]; exact Nat.le_refl _); clear hg hbox; have HB1 := ze.mk hb; clear hb HB; have hc0 : w4.cell? ⟨g, 0, none⟩ = some (.int .i64 a0_0) := (zb BK.o 0).trans rfl; have hc1 : w4.cell? ⟨g, 1, none⟩ = some (.int .i64 a0_1) := (zb BK.o 1).trans rfl; have hc2 : w4.cell? ⟨g, 2, none⟩ = some (.int .i64 a0_2) := (zb BK.o 2).trans rfl; have hc4 : w4.cell? ⟨g, 4, none⟩ = some (.int .i64 a0_4) := (zb BK.o 4).trans rfl; have hc5 : w4.cell? ⟨g, 5, none⟩ = some (.int .i64 a0_5) := (zb BK.o 5).trans rfl; have hc6 : w4.cell? ⟨g, 6, none⟩ = some (.int .i64 a0_6) := (zb BK.o 6).trans rfl; have hc7 : w4.cell? ⟨g, 7, none⟩ = some (.int .i64 a0_7) := (zb BK.o 7).trans rfl; have hc8 : w4.cell? ⟨g, 8, none⟩ = some (.int .i64 a0_8) := (zb BK.o 8).trans rfl)
  | ((with_reducible refine zD (N := 12) rfl ?_); refine Kd.R_lit (Kd.int .i64) _ 3 ?hg (N := 12) ?hd (xs := [a0_0, a0_1, a0_2]) (inner := [.int .i64 a0_0, .int .i64 a0_1, .int .i64 a0_2]) (ok := fun _ => True) (okp := fun _ => True) ?hr ?hp (fun _ hk => hk) trivial (Below.refl _ _) (Nat.le_refl _) (by simp) ?_; (case hd => rfl); (case hg => rfl); (case hr => first | (go_simp; done) | (go_simp; rfl)); (case hp => exact (Reps.one rfl (Reps.one rfl (Reps.one rfl (Reps.none _ _))))); intro v12 w5 ho hb hg_ hnew_; have HO := ze.mk (Kd.yf ho (zt HB1.o)); have HB2 := ze.mk (zu HB1.o hb); have BK2 := ze.mk (zK BK.o hb); clear ho hb hg_ hnew_ HB1 BK hc0 hc1 hc2 hc4 hc5 hc6 hc7 hc8; have hc4 : w5.cell? ⟨g, 4, none⟩ = some (.int .i64 a0_4) := (zb BK2.o 4).trans rfl; have hc5 : w5.cell? ⟨g, 5, none⟩ = some (.int .i64 a0_5) := (zb BK2.o 5).trans rfl; have hc6 : w5.cell? ⟨g, 6, none⟩ = some (.int .i64 a0_6) := (zb BK2.o 6).trans rfl; have hc7 : w5.cell? ⟨g, 7, none⟩ = some (.int .i64 a0_7) := (zb BK2.o 7).trans rfl; have hc8 : w5.cell? ⟨g, 8, none⟩ = some (.int .i64 a0_8) := (zb BK2.o 8).trans rfl))
 go_loopg [3, 15] 5 (fun gk v3 v15 wr => ∃ m : Nat, v15 = .int .i64 m ∧ m ≤ 5 ∧ 5 - m ≤ gk ∧ ze (Kd.R (Kd.int .i64) 3 wr w.heap.size (fun _ => True) v3 (numsTo a0_0 a0_1 a0_2 a0_4 a0_5 a0_6 a0_7 a0_8 m)) ∧ ze (wr.heap[g]? = some (.cells #[.int .i64 a0_0, .int .i64 a0_1, .int .i64 a0_2, .int .u64 a0_3, .int .i64 a0_4, .int .i64 a0_5, .int .i64 a0_6, .int .i64 a0_7, .int .i64 a0_8, .int .i64 a0_9] 37 (0, 0))) ∧ ze (Below w.heap.size w wr))
 case atStart => exact ⟨0, rfl, by omega, by omega, HO, BK2, HB2⟩
 case round =>
  obtain ⟨m, rfl, hm, hgk, HO, BK, HB⟩ := hrel
  by_cases hlt : m < 5
  ·have hltz : (m : Int) < 5 := by omega
   have hix := index_arr a0_4 a0_5 a0_6 a0_7 a0_8 wr m hlt
   have HL := ze.mk (numsTo_len a0_0 a0_1 a0_2 a0_4 a0_5 a0_6 a0_7 a0_8 m hm)
   have HS := ze.mk (numsTo_succ a0_0 a0_1 a0_2 a0_4 a0_5 a0_6 a0_7 a0_8 m hlt)
   go_wp2_with (first | ((with_reducible refine yo (b := .append) (xs := #[.tmp 18, .tmp 21]) rfl ?_); at_builtin; refine Kd.YI (Kd.int .i64) (w0 := w) w.heap.size rfl (.tmp 18) (.tmp 21) 38 3 (.int .i64 0) 8 rfl Tryz.underlying38 info_intN rfl (by decide) (by omega) _ (numsTo a0_0 a0_1 a0_2 a0_4 a0_5 a0_6 a0_7 a0_8 m) (wrap64 (numAt a0_4 a0_5 a0_6 a0_7 a0_8 m + 1)) [.int .i64 (wrap64 (numAt a0_4 a0_5 a0_6 a0_7 a0_8 m + 1))] (fun _ => True) (fun _ => False) rfl rfl ?aP (fun _ hk => hk.elim) ?aF ?aO ?aB ?aS ?aL ?_; (case aP => rfl); (case aB => exact (by repeat (first | (with_reducible first | exact HB.o | apply zl) | exact HB.o))); (case aF => exact (fun _ _ => trivial)); (case aO => exact (by (with_reducible repeat (first | apply Kd.zz)); exact HO.o)); (case aS => exact (zt (by repeat (first | (with_reducible first | exact HB.o | apply zl) | exact HB.o)))); (case aL => rw [HL.o]; omega); intro v7 w7 ho hb hg hat7; have HO7 := ze.mk ho; have HB7 := ze.mk hb; have HG7 := ze.mk hg; clear ho hb hg hat7))
   go_roundg (5 - (m + 1))
   case measure => omega
   case rel => exact ⟨m + 1, by go_num, by omega, by omega, ⟨by rw [HS.o]; exact HO7.o⟩, ⟨yA (by (with_reducible repeat (first | refine zh ?_ _)); exact BK.o) HG7.o (Kd.R_ne HO.o BK.o (by decide))⟩, HB7⟩
  ·obtain rfl : m = 5 := by omega
   have hc9 : wr.cell? ⟨g, 9, none⟩ = some (.int .i64 a0_9) := (zb BK.o 9).trans rfl
   have HL := ze.mk (numsTo_len a0_0 a0_1 a0_2 a0_4 a0_5 a0_6 a0_7 a0_8 5 (by omega))
   go_wp2_with (first | ((with_reducible refine yo (b := .append) (xs := #[.tmp 24, .tmp 28]) rfl ?_); at_builtin; refine Kd.YI (Kd.int .i64) (w0 := w) w.heap.size rfl (.tmp 24) (.tmp 28) 38 3 (.int .i64 0) 8 rfl Tryz.underlying38 info_intN rfl (by decide) (by omega) _ (numsTo a0_0 a0_1 a0_2 a0_4 a0_5 a0_6 a0_7 a0_8 5) (wrap64 (a0_9 + 1)) [.int .i64 (wrap64 (a0_9 + 1))] (fun _ => True) (fun _ => False) rfl rfl ?aP (fun _ hk => hk.elim) ?aF ?aO ?aB ?aS ?aL ?_; (case aP => rfl); (case aB => exact (by repeat (first | (with_reducible first | exact HB.o | apply zl) | exact HB.o))); (case aF => exact (fun _ _ => trivial)); (case aO => exact (by (with_reducible repeat (first | apply Kd.zz)); exact HO.o)); (case aS => exact (zt (by repeat (first | (with_reducible first | exact HB.o | apply zl) | exact HB.o)))); (case aL => rw [HL.o]; omega); intro v7 w7 ho hb hg hat7; have HO7 := ze.mk ho; have HB7 := ze.mk hb; clear ho hb hg hat7))
   go_ret
   exact ⟨_, rfl, HO7.o, HB7.o⟩
end Go.Proofs.YtkbhilhefnahpaaGreat.Print
