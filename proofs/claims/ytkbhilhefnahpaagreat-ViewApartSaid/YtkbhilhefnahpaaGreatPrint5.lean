import Derived.Test.YtkbhilhefnahpaaGreatPrint0
import Derived.Test.YtkbhilhefnahpaaGreatPrint3
import Derived.Test.YtkbhilhefnahpaaGreatHbitsLen64
namespace Go.Proofs.YtkbhilhefnahpaaGreat.Print
open Go.RowKit Go.Proofs.YtkbhilhefnahpaaGreatW.PrintWords Go.Proofs.YtkbhilhefnahpaaGreatW.PrintLast Go.Proofs.YtkbhilhefnahpaaGreatW.PrintMore
attribute [local go_sem] yS yR Zq Zp yH yG Zb Za   -- for this text's walks alone
set_option linter.unusedVariables false
set_option linter.unusedSimpArgs false

/-! ### bits_Len: function 60 -/
/-! ### slices_nextPowerOfTwo: function 94 -/
/-! ### plan_What: function 63 -/
def plan_What.l0 : Nat → Int → List (S82) → Int → Int → Option (Int × Int)
 | 0, _, _, _, _ => none
 | k + 1, x0, x6, x7, x8 => if x8 < x7 then (if 0 ≤ x8 then (if x8 < (x6.length : Int) then (if x0 ≥ ((zn x6 x8).f1) then ((plan_part_end.f ((zn x6 x8).f0) ((zn x6 x8).f1) ((zn x6 x8).f2) ((zn x6 x8).f3)).bind fun t141 => (if x0 < t141 then (if ((zn x6 x8).f3) = 0 then (none) else (some ((zn x6 x8).f0, wrap64 (Int.tdiv (wrap64 (x0 - ((zn x6 x8).f1))) ((zn x6 x8).f3))))) else (plan_What.l0 k x0 x6 x7 (wrap64 (x8 + 1))))) else (plan_What.l0 k x0 x6 x7 (wrap64 (x8 + 1)))) else (none)) else (none)) else (some (0, 0))
def plan_What.f (k : Nat) (a0 : Int) : Option (Int × Int) := (plan_parts.f k).bind fun Jc => (plan_What.l0 k a0 Jc (Jc.length : Int) 0)
set_option maxHeartbeats 8000000 in
set_option maxRecDepth 100000 in
theorem plan_What.calls (k : Nat) (a0 : Int) (r1 : Int) (r2 : Int) (w : World) (h : plan_What.f k a0 = some (r1, r2)) :
  Calls Tryz.prog 63 #[.int .i64 a0] w fun e w' => e = .returned (.tuple #[.int .i64 r1, .int .i64 r2]) ∧ Below w.heap.size w w' := by
 have hu82 := Tryz.underlying82
 have HB := ze.mk (Below.refl w.heap.size w)
 have H : ((plan_parts.f k).bind fun Jc => (plan_What.l0 k a0 Jc (Jc.length : Int) 0)) = some (r1, r2) := h
 clear h
 replace H := Option.bind_eq_some_iff.mp H
 obtain ⟨Jc, A20, H⟩ := H
 replace H : (plan_What.l0 k a0 Jc (Jc.length : Int) 0) = some (r1, r2) := H
 have A2 := ze.mk A20
 clear A20
 have H' := ze.mk H
 clear H
 go_enter Tryz.func63, Tryz.ntmps63
 go_wp2_with (first | (go_at_call 65; (with_reducible refine (plan_parts.calls k  Jc _ A2.o).mono ?_); rintro e w3 ⟨v137, rfl, ho0, hb⟩; have n0_ := ze.mk (Kd.yf ho0 (zt (by repeat (first | (with_reducible first | exact HB.o | apply zl | apply zf | apply zk) | exact HB.o)))); have n1_ := ze.mk (zu (by repeat (first | (with_reducible first | exact HB.o | apply zl | apply zf | apply zk) | exact HB.o)) hb); clear HB; have JN := n0_; have HB := n1_; clear n0_ n1_; (try clear hb); (try clear hb2); (try clear hk); (try clear hi); (try clear ho0); obtain ⟨Ao4, co4, eo4⟩ := Kd.yc JN.o; subst eo4))
 repeat (go_quiet (first | (go_at_call 65; (try simp only [i64_w, i32_w]); (with_reducible refine (plan_parts.calls k  Jc _ A2.o).mono ?_); rintro e w3 ⟨v137, rfl, ho0, hb⟩; have n0_ := ze.mk (Kd.yf ho0 (zt (by repeat (first | (with_reducible first | exact HB.o | apply zl | apply zf | apply zk) | exact HB.o)))); have n1_ := ze.mk (zu (by repeat (first | (with_reducible first | exact HB.o | apply zl | apply zf | apply zk) | exact HB.o)) hb); clear HB; have JN := n0_; have HB := n1_; clear n0_ n1_; (try clear hb); (try clear hb2); (try clear hk); (try clear hi); (try clear ho0); obtain ⟨Ao4, co4, eo4⟩ := Kd.yc JN.o; subst eo4)); try go_wp2_with (first | (go_at_call 65; (with_reducible refine (plan_parts.calls k  Jc _ A2.o).mono ?_); rintro e w3 ⟨v137, rfl, ho0, hb⟩; have n0_ := ze.mk (Kd.yf ho0 (zt (by repeat (first | (with_reducible first | exact HB.o | apply zl | apply zf | apply zk) | exact HB.o)))); have n1_ := ze.mk (zu (by repeat (first | (with_reducible first | exact HB.o | apply zl | apply zf | apply zk) | exact HB.o)) hb); clear HB; have JN := n0_; have HB := n1_; clear n0_ n1_; (try clear hb); (try clear hb2); (try clear hk); (try clear hi); (try clear ho0); obtain ⟨Ao4, co4, eo4⟩ := Kd.yc JN.o; subst eo4)))
 go_loopg [8] k (fun kq v8 w' => ∃ (Jd : Int), v8 = .int .i64 Jd ∧ ze (plan_What.l0 kq a0 Jc (Jc.length : Int) Jd = some (r1, r2)) ∧ ze (kq ≤ k) ∧ ze (Kd.R k82 82 w' w.heap.size (fun _ => True) (.slice Ao4 Jc.length co4) Jc) ∧ ze (Below w.heap.size w w'))
 case atStart => exact ⟨(0), (by first | rfl | (simp; done) | (simp [*]; done) | kernel_rfl), H', ⟨Nat.le_refl _⟩, ⟨by (with_reducible repeat (first | apply Kd.zz | apply Kd.zA | apply Kd.zF)); exact JN.o⟩, ⟨by repeat (first | (with_reducible first | exact HB.o | apply zl | apply zf | apply zk) | exact HB.o)⟩⟩
 case round =>
  clear H'
  try clear p2
  obtain ⟨Jd, rfl, HA, HK1, Jf, HB⟩ := hrel
  cases gk with
  | zero => exact absurd HA.o (by simp [plan_What.l0])
  | succ k1 =>
   have H := HA.o
   clear HA
   simp only [plan_What.l0] at H
   by_cases c5 : Jd < (Jc.length : Int)
   ·rw [if_pos c5] at H
    have Df : decide (Jd < (Jc.length : Int)) = true := decide_eq_true c5
    clear c5
    by_cases c6 : 0 ≤ Jd
    ·rw [if_pos c6] at H
     have c6b0 : decide (0 ≤ Jd) = true := decide_eq_true c6
     clear c6
     by_cases c7 : Jd < (Jc.length : Int)
     ·rw [if_pos c7] at H
      have c7b0 : decide (Jd < (Jc.length : Int)) = true := decide_eq_true c7
      clear c7
      by_cases c8 : a0 ≥ ((zn Jc Jd).f1)
      ·rw [if_pos c8] at H
       have Bg : decide (((zn Jc Jd).f1) ≤ a0) = true := decide_eq_true c8
       clear c8
       replace H := Option.bind_eq_some_iff.mp H
       obtain ⟨t141, A90, H⟩ := H
       replace H : (if a0 < t141 then (if ((zn Jc Jd).f3) = 0 then (none) else (some ((zn Jc Jd).f0, wrap64 (Int.tdiv (wrap64 (a0 - ((zn Jc Jd).f1))) ((zn Jc Jd).f3))))) else (plan_What.l0 k1 a0 Jc (Jc.length : Int) (wrap64 (Jd + 1)))) = some (r1, r2) := H
       have A9 := ze.mk A90
       clear A90
       by_cases c10 : a0 < t141
       ·rw [if_pos c10] at H
        have Bj : decide (a0 < t141) = true := decide_eq_true c10
        clear c10
        by_cases c11 : ((zn Jc Jd).f3) = 0
        ·rw [if_pos c11] at H
         exact absurd H (by simp)
        ·rw [if_neg c11] at H
         have c11b0 : (((zn Jc Jd).f3) == 0) = false := beq_eq_false_iff_ne.mpr c11
         have c11b1 : (((zn Jc Jd).f3) != 0) = true := bne_iff_ne.mpr c11
         simp only [Option.some.injEq, Prod.mk.injEq] at H
         obtain ⟨rfl, rfl⟩ := H
         have JQ : 0 ≤ (Jd : Int) := of_decide_eq_true (by first | (with_reducible assumption) | assumption)
         have JP : Jd < (Jc.length : Int) := of_decide_eq_true (by first | (with_reducible assumption) | assumption)
         obtain ⟨Jl, Dc, JW, JV, JU, JS⟩ := at_T82 (Kd.zQ Jf.o).2.2 Jd JQ JP
         cases Dc
         replace JQ := eq_true JQ
         replace JP := eq_true JP
         go_wp2_with (first | ((with_reducible refine zD (N := 5) rfl ?_); refine zC ?hg (N := 5) ?hd (cs := #[.int .i64 0, .int .i64 0, .int .i64 0, .int .i64 0]) (t := 82) ?hr ?_; (case hd => rfl); (case hg => rfl); (case hr => first | (go_simp; done) | (go_simp; rfl)); intro Jb hg w12 hbox hb; have n0_ := ze.mk (Kd.zS (Kd.yF (by (with_reducible repeat (first | apply Kd.zz | apply Kd.zA | apply Kd.zF)); exact Jf.o) Jb (Nat.le_of_eq hg.symm)) hb); have n1_ := ze.mk (zu (by repeat (first | (with_reducible first | exact HB.o | apply zl | apply zf | apply zk) | exact HB.o)) hb); have n2_ := ze.mk (hbox); have n3_ := ze.mk ((by rw [hg]; exact (zt (by repeat (first | (with_reducible first | exact HB.o | apply zl | apply zf | apply zk) | exact HB.o))) : w.heap.size ≤ Jb)); have n4_ := ze.mk ((by rw [hg]; exact (zt (by repeat (first | (with_reducible first | exact HB.o | apply zl | apply zf | apply zk) | exact HB.o))) : w.heap.size ≤ Jb)); clear Jf; clear HB; have Jf := n0_; have HB := n1_; have Ja := n2_; have Jp := n3_; have Ji := n4_; clear n0_ n1_ n2_ n3_ n4_; clear hb hbox hg; have GK : w12.cell? ⟨Jb, 0, none⟩ = some (.int .i64 0) := (zb Ja.o 0).trans rfl; have GJ : w12.cell? ⟨Jb, 1, none⟩ = some (.int .i64 0) := (zb Ja.o 1).trans rfl; have GI : w12.cell? ⟨Jb, 2, none⟩ = some (.int .i64 0) := (zb Ja.o 2).trans rfl; have GH : w12.cell? ⟨Jb, 3, none⟩ = some (.int .i64 0) := (zb Ja.o 3).trans rfl; have Gj := za Ja.o 0; have Gi := za Ja.o 1; have Gh := za Ja.o 2; have Gg := za Ja.o 3) | ((with_reducible refine zJ (t := 82) (p := 5) rfl ?_); (try (rw [zW w12]; generalize hq_ : World.drewN w12 _ = w12; have n0_ := ze.mk (Kd.R_at hq_ Jf.o); have n1_ := ze.mk (yT hq_ Ja.o); have n2_ := ze.mk (yB hq_ HB.o); clear hq_ Jf Ja HB; have Jf := n0_; have Ja := n1_; have HB := n2_; clear n0_ n1_ n2_)); refine zH (t := 82) (p := 5) (v := ?vo_w14) (w1 := ((((w12.setCell ⟨Jb, 0, none⟩ (.int .i64 ((zn Jc Jd).f0))).setCell ⟨Jb, 1, none⟩ (.int .i64 ((zn Jc Jd).f1))).setCell ⟨Jb, 2, none⟩ (.int .i64 ((zn Jc Jd).f2))).setCell ⟨Jb, 3, none⟩ (.int .i64 ((zn Jc Jd).f3)))) ?hg ?ho ?hn ?hr ?_; (case ho => rfl); (case hg => rfl); (case hn => rfl); (case hr => exact zM rfl rfl rfl (zP (P := Tryz.prog) (o := 0) (cur := #[.int .i64 0, .int .i64 0, .int .i64 0, .int .i64 0]) 82 (.agg #[.int .i64 ((zn Jc Jd).f0), .int .i64 ((zn Jc Jd).f1), .int .i64 ((zn Jc Jd).f2), .int .i64 ((zn Jc Jd).f3)]) [.int .i64 ((zn Jc Jd).f0), .int .i64 ((zn Jc Jd).f1), .int .i64 ((zn Jc Jd).f2), .int .i64 ((zn Jc Jd).f3)] (show _ = some (Obj.cells #[.int .i64 0, .int .i64 0, .int .i64 0, .int .i64 0] 82 (0, 0)) from (by (with_reducible repeat (first | refine zg ?_ _ | refine zi ?_ | refine zh ?_ _)); exact Ja.o)) rfl (by kernel_rfl) (show 4 ≤ 4 by decide) (by intro q_ hq_; simp only [List.mem_cons, List.not_mem_nil, or_false] at hq_; rcases hq_ with rfl | rfl | rfl | rfl <;> rfl))); intro w14 hw; have n0_ : ze (Kd.R k82 82 w14 w.heap.size (fun k_ => k_ ≠ Jb) (.slice (some Jl) Jc.length co4) Jc) := ⟨(by rw [hw]; exact (by (with_reducible repeat (first | apply Kd.zz | apply Kd.zA | apply Kd.zF)); exact Kd.zT (Kd.R_far (p := ⟨Jb, 3, none⟩) (Kd.R_far (p := ⟨Jb, 2, none⟩) (Kd.R_far (p := ⟨Jb, 1, none⟩) (Kd.R_far (p := ⟨Jb, 0, none⟩) (Kd.zT Jf.o (fun k_ hk => (⟨hk, hk.2⟩ : _ ∧ k_ ≠ Jb))) (fun _ hk => hk.2) (.int .i64 ((zn Jc Jd).f0))) (fun _ hk => hk.2) (.int .i64 ((zn Jc Jd).f1))) (fun _ hk => hk.2) (.int .i64 ((zn Jc Jd).f2))) (fun _ hk => hk.2) (.int .i64 ((zn Jc Jd).f3))) (fun _ hk => hk.1.2)))⟩; have n1_ : ze (w14.heap[Jb]? = some (.cells #[.int .i64 ((zn Jc Jd).f0), .int .i64 ((zn Jc Jd).f1), .int .i64 ((zn Jc Jd).f2), .int .i64 ((zn Jc Jd).f3)] 82 (0, 0))) := ⟨(by rw [hw]; exact (by (with_reducible repeat (first | refine zg ?_ _ | refine zi ?_ | refine zh ?_ _)); refine zq (cs := #[.int .i64 ((zn Jc Jd).f0), .int .i64 ((zn Jc Jd).f1), .int .i64 ((zn Jc Jd).f2), .int .i64 0]) ?_ 3 _ rfl; (with_reducible repeat (first | refine zg ?_ _ | refine zi ?_ | refine zh ?_ _)); refine zq (cs := #[.int .i64 ((zn Jc Jd).f0), .int .i64 ((zn Jc Jd).f1), .int .i64 0, .int .i64 0]) ?_ 2 _ rfl; (with_reducible repeat (first | refine zg ?_ _ | refine zi ?_ | refine zh ?_ _)); refine zq (cs := #[.int .i64 ((zn Jc Jd).f0), .int .i64 0, .int .i64 0, .int .i64 0]) ?_ 1 _ rfl; (with_reducible repeat (first | refine zg ?_ _ | refine zi ?_ | refine zh ?_ _)); refine zq (cs := #[.int .i64 0, .int .i64 0, .int .i64 0, .int .i64 0]) ?_ 0 _ rfl; (with_reducible repeat (first | refine zg ?_ _ | refine zi ?_ | refine zh ?_ _)); exact Ja.o))⟩; have n2_ : ze (Below w.heap.size w w14) := ⟨(by rw [hw]; exact (by repeat (first | (with_reducible first | exact HB.o | apply zl | apply zf | apply zk | refine zm ?_ Ji.o) | exact HB.o)))⟩; clear hw; clear Jf; clear Ja; clear HB; have Jf := n0_; have Ja := n1_; have HB := n2_; clear n0_ n1_ n2_; have GG : w14.cell? ⟨Jb, 0, none⟩ = some (.int .i64 ((zn Jc Jd).f0)) := (zb Ja.o 0).trans rfl; have GD : w14.cell? ⟨Jb, 1, none⟩ = some (.int .i64 ((zn Jc Jd).f1)) := (zb Ja.o 1).trans rfl; have Gz : w14.cell? ⟨Jb, 2, none⟩ = some (.int .i64 ((zn Jc Jd).f2)) := (zb Ja.o 2).trans rfl; have Gy : w14.cell? ⟨Jb, 3, none⟩ = some (.int .i64 ((zn Jc Jd).f3)) := (zb Ja.o 3).trans rfl; have Gf := za Ja.o 0; have Gd := za Ja.o 1; have Gc := za Ja.o 2; have Gb := za Ja.o 3) | (go_at_call 48; (with_reducible refine (plan_part_end.calls ((zn Jc Jd).f0) ((zn Jc Jd).f1) ((zn Jc Jd).f2) ((zn Jc Jd).f3) t141 _ A9.o).mono ?_); rintro e w16 ⟨rfl, hb⟩; have n0_ := ze.mk (Kd.zS (by (with_reducible repeat (first | apply Kd.zz | apply Kd.zA | apply Kd.zF)); exact Jf.o) hb); have n1_ := ze.mk (zK (g := Jb) (o := .cells #[.int .i64 ((zn Jc Jd).f0), .int .i64 ((zn Jc Jd).f1), .int .i64 ((zn Jc Jd).f2), .int .i64 ((zn Jc Jd).f3)] 82 (0, 0)) (by (with_reducible repeat (first | refine zg ?_ _ | refine zi ?_ | refine zh ?_ _)); exact Ja.o) hb); have n2_ := ze.mk (zu (by repeat (first | (with_reducible first | exact HB.o | apply zl | apply zf | apply zk | refine zm ?_ Ji.o) | exact HB.o)) hb); clear Jf; clear Ja; clear HB; have Jf := n0_; have Ja := n1_; have HB := n2_; clear n0_ n1_ n2_; (try clear hb); (try clear hb2); (try clear hk); (try clear hi); have JJ : w16.cell? ⟨Jb, 0, none⟩ = some (.int .i64 ((zn Jc Jd).f0)) := (zb Ja.o 0).trans rfl; have JI : w16.cell? ⟨Jb, 1, none⟩ = some (.int .i64 ((zn Jc Jd).f1)) := (zb Ja.o 1).trans rfl; have JH : w16.cell? ⟨Jb, 2, none⟩ = some (.int .i64 ((zn Jc Jd).f2)) := (zb Ja.o 2).trans rfl; have JG : w16.cell? ⟨Jb, 3, none⟩ = some (.int .i64 ((zn Jc Jd).f3)) := (zb Ja.o 3).trans rfl; have JB := za Ja.o 0; have JA := za Ja.o 1; have Jz := za Ja.o 2; have Jy := za Ja.o 3))
         repeat (go_quiet (first | ((with_reducible refine zD (N := 5) rfl ?_); refine zC ?hg (N := 5) ?hd (cs := #[.int .i64 0, .int .i64 0, .int .i64 0, .int .i64 0]) (t := 82) ?hr ?_; (case hd => rfl); (case hg => rfl); (case hr => first | (go_simp; done) | (go_simp; rfl)); intro Jb hg w12 hbox hb; have n0_ := ze.mk (Kd.zS (Kd.yF (by (with_reducible repeat (first | apply Kd.zz | apply Kd.zA | apply Kd.zF)); exact Jf.o) Jb (Nat.le_of_eq hg.symm)) hb); have n1_ := ze.mk (zu (by repeat (first | (with_reducible first | exact HB.o | apply zl | apply zf | apply zk) | exact HB.o)) hb); have n2_ := ze.mk (hbox); have n3_ := ze.mk ((by rw [hg]; exact (zt (by repeat (first | (with_reducible first | exact HB.o | apply zl | apply zf | apply zk) | exact HB.o))) : w.heap.size ≤ Jb)); have n4_ := ze.mk ((by rw [hg]; exact (zt (by repeat (first | (with_reducible first | exact HB.o | apply zl | apply zf | apply zk) | exact HB.o))) : w.heap.size ≤ Jb)); clear Jf; clear HB; have Jf := n0_; have HB := n1_; have Ja := n2_; have Jp := n3_; have Ji := n4_; clear n0_ n1_ n2_ n3_ n4_; clear hb hbox hg; have GK : w12.cell? ⟨Jb, 0, none⟩ = some (.int .i64 0) := (zb Ja.o 0).trans rfl; have GJ : w12.cell? ⟨Jb, 1, none⟩ = some (.int .i64 0) := (zb Ja.o 1).trans rfl; have GI : w12.cell? ⟨Jb, 2, none⟩ = some (.int .i64 0) := (zb Ja.o 2).trans rfl; have GH : w12.cell? ⟨Jb, 3, none⟩ = some (.int .i64 0) := (zb Ja.o 3).trans rfl; have Gj := za Ja.o 0; have Gi := za Ja.o 1; have Gh := za Ja.o 2; have Gg := za Ja.o 3) | ((with_reducible refine zJ (t := 82) (p := 5) rfl ?_); (try (rw [zW w12]; generalize hq_ : World.drewN w12 _ = w12; have n0_ := ze.mk (Kd.R_at hq_ Jf.o); have n1_ := ze.mk (yT hq_ Ja.o); have n2_ := ze.mk (yB hq_ HB.o); clear hq_ Jf Ja HB; have Jf := n0_; have Ja := n1_; have HB := n2_; clear n0_ n1_ n2_)); refine zH (t := 82) (p := 5) (v := ?vo_w14) (w1 := ((((w12.setCell ⟨Jb, 0, none⟩ (.int .i64 ((zn Jc Jd).f0))).setCell ⟨Jb, 1, none⟩ (.int .i64 ((zn Jc Jd).f1))).setCell ⟨Jb, 2, none⟩ (.int .i64 ((zn Jc Jd).f2))).setCell ⟨Jb, 3, none⟩ (.int .i64 ((zn Jc Jd).f3)))) ?hg ?ho ?hn ?hr ?_; (case ho => rfl); (case hg => rfl); (case hn => rfl); (case hr => exact zM rfl rfl rfl (zP (P := Tryz.prog) (o := 0) (cur := #[.int .i64 0, .int .i64 0, .int .i64 0, .int .i64 0]) 82 (.agg #[.int .i64 ((zn Jc Jd).f0), .int .i64 ((zn Jc Jd).f1), .int .i64 ((zn Jc Jd).f2), .int .i64 ((zn Jc Jd).f3)]) [.int .i64 ((zn Jc Jd).f0), .int .i64 ((zn Jc Jd).f1), .int .i64 ((zn Jc Jd).f2), .int .i64 ((zn Jc Jd).f3)] (show _ = some (Obj.cells #[.int .i64 0, .int .i64 0, .int .i64 0, .int .i64 0] 82 (0, 0)) from (by (with_reducible repeat (first | refine zg ?_ _ | refine zi ?_ | refine zh ?_ _)); exact Ja.o)) rfl (by kernel_rfl) (show 4 ≤ 4 by decide) (by intro q_ hq_; simp only [List.mem_cons, List.not_mem_nil, or_false] at hq_; rcases hq_ with rfl | rfl | rfl | rfl <;> rfl))); intro w14 hw; have n0_ : ze (Kd.R k82 82 w14 w.heap.size (fun k_ => k_ ≠ Jb) (.slice (some Jl) Jc.length co4) Jc) := ⟨(by rw [hw]; exact (by (with_reducible repeat (first | apply Kd.zz | apply Kd.zA | apply Kd.zF)); exact Kd.zT (Kd.R_far (p := ⟨Jb, 3, none⟩) (Kd.R_far (p := ⟨Jb, 2, none⟩) (Kd.R_far (p := ⟨Jb, 1, none⟩) (Kd.R_far (p := ⟨Jb, 0, none⟩) (Kd.zT Jf.o (fun k_ hk => (⟨hk, hk.2⟩ : _ ∧ k_ ≠ Jb))) (fun _ hk => hk.2) (.int .i64 ((zn Jc Jd).f0))) (fun _ hk => hk.2) (.int .i64 ((zn Jc Jd).f1))) (fun _ hk => hk.2) (.int .i64 ((zn Jc Jd).f2))) (fun _ hk => hk.2) (.int .i64 ((zn Jc Jd).f3))) (fun _ hk => hk.1.2)))⟩; have n1_ : ze (w14.heap[Jb]? = some (.cells #[.int .i64 ((zn Jc Jd).f0), .int .i64 ((zn Jc Jd).f1), .int .i64 ((zn Jc Jd).f2), .int .i64 ((zn Jc Jd).f3)] 82 (0, 0))) := ⟨(by rw [hw]; exact (by (with_reducible repeat (first | refine zg ?_ _ | refine zi ?_ | refine zh ?_ _)); refine zq (cs := #[.int .i64 ((zn Jc Jd).f0), .int .i64 ((zn Jc Jd).f1), .int .i64 ((zn Jc Jd).f2), .int .i64 0]) ?_ 3 _ rfl; (with_reducible repeat (first | refine zg ?_ _ | refine zi ?_ | refine zh ?_ _)); refine zq (cs := #[.int .i64 ((zn Jc Jd).f0), .int .i64 ((zn Jc Jd).f1), .int .i64 0, .int .i64 0]) ?_ 2 _ rfl; (with_reducible repeat (first | refine zg ?_ _ | refine zi ?_ | refine zh ?_ _)); refine zq (cs := #[.int .i64 ((zn Jc Jd).f0), .int .i64 0, .int .i64 0, .int .i64 0]) ?_ 1 _ rfl; (with_reducible repeat (first | refine zg ?_ _ | refine zi ?_ | refine zh ?_ _)); refine zq (cs := #[.int .i64 0, .int .i64 0, .int .i64 0, .int .i64 0]) ?_ 0 _ rfl; (with_reducible repeat (first | refine zg ?_ _ | refine zi ?_ | refine zh ?_ _)); exact Ja.o))⟩; have n2_ : ze (Below w.heap.size w w14) := ⟨(by rw [hw]; exact (by repeat (first | (with_reducible first | exact HB.o | apply zl | apply zf | apply zk | refine zm ?_ Ji.o) | exact HB.o)))⟩; clear hw; clear Jf; clear Ja; clear HB; have Jf := n0_; have Ja := n1_; have HB := n2_; clear n0_ n1_ n2_; have GG : w14.cell? ⟨Jb, 0, none⟩ = some (.int .i64 ((zn Jc Jd).f0)) := (zb Ja.o 0).trans rfl; have GD : w14.cell? ⟨Jb, 1, none⟩ = some (.int .i64 ((zn Jc Jd).f1)) := (zb Ja.o 1).trans rfl; have Gz : w14.cell? ⟨Jb, 2, none⟩ = some (.int .i64 ((zn Jc Jd).f2)) := (zb Ja.o 2).trans rfl; have Gy : w14.cell? ⟨Jb, 3, none⟩ = some (.int .i64 ((zn Jc Jd).f3)) := (zb Ja.o 3).trans rfl; have Gf := za Ja.o 0; have Gd := za Ja.o 1; have Gc := za Ja.o 2; have Gb := za Ja.o 3) | (go_at_call 48; (try simp only [i64_w, i32_w]); (with_reducible refine (plan_part_end.calls ((zn Jc Jd).f0) ((zn Jc Jd).f1) ((zn Jc Jd).f2) ((zn Jc Jd).f3) t141 _ A9.o).mono ?_); rintro e w16 ⟨rfl, hb⟩; have n0_ := ze.mk (Kd.zS (by (with_reducible repeat (first | apply Kd.zz | apply Kd.zA | apply Kd.zF)); exact Jf.o) hb); have n1_ := ze.mk (zK (g := Jb) (o := .cells #[.int .i64 ((zn Jc Jd).f0), .int .i64 ((zn Jc Jd).f1), .int .i64 ((zn Jc Jd).f2), .int .i64 ((zn Jc Jd).f3)] 82 (0, 0)) (by (with_reducible repeat (first | refine zg ?_ _ | refine zi ?_ | refine zh ?_ _)); exact Ja.o) hb); have n2_ := ze.mk (zu (by repeat (first | (with_reducible first | exact HB.o | apply zl | apply zf | apply zk | refine zm ?_ Ji.o) | exact HB.o)) hb); clear Jf; clear Ja; clear HB; have Jf := n0_; have Ja := n1_; have HB := n2_; clear n0_ n1_ n2_; (try clear hb); (try clear hb2); (try clear hk); (try clear hi); have JJ : w16.cell? ⟨Jb, 0, none⟩ = some (.int .i64 ((zn Jc Jd).f0)) := (zb Ja.o 0).trans rfl; have JI : w16.cell? ⟨Jb, 1, none⟩ = some (.int .i64 ((zn Jc Jd).f1)) := (zb Ja.o 1).trans rfl; have JH : w16.cell? ⟨Jb, 2, none⟩ = some (.int .i64 ((zn Jc Jd).f2)) := (zb Ja.o 2).trans rfl; have JG : w16.cell? ⟨Jb, 3, none⟩ = some (.int .i64 ((zn Jc Jd).f3)) := (zb Ja.o 3).trans rfl; have JB := za Ja.o 0; have JA := za Ja.o 1; have Jz := za Ja.o 2; have Jy := za Ja.o 3)); try go_wp2_with (first | ((with_reducible refine zD (N := 5) rfl ?_); refine zC ?hg (N := 5) ?hd (cs := #[.int .i64 0, .int .i64 0, .int .i64 0, .int .i64 0]) (t := 82) ?hr ?_; (case hd => rfl); (case hg => rfl); (case hr => first | (go_simp; done) | (go_simp; rfl)); intro Jb hg w12 hbox hb; have n0_ := ze.mk (Kd.zS (Kd.yF (by (with_reducible repeat (first | apply Kd.zz | apply Kd.zA | apply Kd.zF)); exact Jf.o) Jb (Nat.le_of_eq hg.symm)) hb); have n1_ := ze.mk (zu (by repeat (first | (with_reducible first | exact HB.o | apply zl | apply zf | apply zk) | exact HB.o)) hb); have n2_ := ze.mk (hbox); have n3_ := ze.mk ((by rw [hg]; exact (zt (by repeat (first | (with_reducible first | exact HB.o | apply zl | apply zf | apply zk) | exact HB.o))) : w.heap.size ≤ Jb)); have n4_ := ze.mk ((by rw [hg]; exact (zt (by repeat (first | (with_reducible first | exact HB.o | apply zl | apply zf | apply zk) | exact HB.o))) : w.heap.size ≤ Jb)); clear Jf; clear HB; have Jf := n0_; have HB := n1_; have Ja := n2_; have Jp := n3_; have Ji := n4_; clear n0_ n1_ n2_ n3_ n4_; clear hb hbox hg; have GK : w12.cell? ⟨Jb, 0, none⟩ = some (.int .i64 0) := (zb Ja.o 0).trans rfl; have GJ : w12.cell? ⟨Jb, 1, none⟩ = some (.int .i64 0) := (zb Ja.o 1).trans rfl; have GI : w12.cell? ⟨Jb, 2, none⟩ = some (.int .i64 0) := (zb Ja.o 2).trans rfl; have GH : w12.cell? ⟨Jb, 3, none⟩ = some (.int .i64 0) := (zb Ja.o 3).trans rfl; have Gj := za Ja.o 0; have Gi := za Ja.o 1; have Gh := za Ja.o 2; have Gg := za Ja.o 3) | ((with_reducible refine zJ (t := 82) (p := 5) rfl ?_); (try (rw [zW w12]; generalize hq_ : World.drewN w12 _ = w12; have n0_ := ze.mk (Kd.R_at hq_ Jf.o); have n1_ := ze.mk (yT hq_ Ja.o); have n2_ := ze.mk (yB hq_ HB.o); clear hq_ Jf Ja HB; have Jf := n0_; have Ja := n1_; have HB := n2_; clear n0_ n1_ n2_)); refine zH (t := 82) (p := 5) (v := ?vo_w14) (w1 := ((((w12.setCell ⟨Jb, 0, none⟩ (.int .i64 ((zn Jc Jd).f0))).setCell ⟨Jb, 1, none⟩ (.int .i64 ((zn Jc Jd).f1))).setCell ⟨Jb, 2, none⟩ (.int .i64 ((zn Jc Jd).f2))).setCell ⟨Jb, 3, none⟩ (.int .i64 ((zn Jc Jd).f3)))) ?hg ?ho ?hn ?hr ?_; (case ho => rfl); (case hg => rfl); (case hn => rfl); (case hr => exact zM rfl rfl rfl (zP (P := Tryz.prog) (o := 0) (cur := #[.int .i64 0, .int .i64 0, .int .i64 0, .int .i64 0]) 82 (.agg #[.int .i64 ((zn Jc Jd).f0), .int .i64 ((zn Jc Jd).f1), .int .i64 ((zn Jc Jd).f2), .int .i64 ((zn Jc Jd).f3)]) [.int .i64 ((zn Jc Jd).f0), .int .i64 ((zn Jc Jd).f1), .int .i64 ((zn Jc Jd).f2), .int .i64 ((zn Jc Jd).f3)] (show _ = some (Obj.cells #[.int .i64 0, .int .i64 0, .int .i64 0, .int .i64 0] 82 (0, 0)) from (by (with_reducible repeat (first | refine zg ?_ _ | refine zi ?_ | refine zh ?_ _)); exact Ja.o)) rfl (by kernel_rfl) (show 4 ≤ 4 by decide) (by intro q_ hq_; simp only [List.mem_cons, List.not_mem_nil, or_false] at hq_; rcases hq_ with rfl | rfl | rfl | rfl <;> rfl))); intro w14 hw; have n0_ : ze (Kd.R k82 82 w14 w.heap.size (fun k_ => k_ ≠ Jb) (.slice (some Jl) Jc.length co4) Jc) := ⟨(by rw [hw]; exact (by (with_reducible repeat (first | apply Kd.zz | apply Kd.zA | apply Kd.zF)); exact Kd.zT (Kd.R_far (p := ⟨Jb, 3, none⟩) (Kd.R_far (p := ⟨Jb, 2, none⟩) (Kd.R_far (p := ⟨Jb, 1, none⟩) (Kd.R_far (p := ⟨Jb, 0, none⟩) (Kd.zT Jf.o (fun k_ hk => (⟨hk, hk.2⟩ : _ ∧ k_ ≠ Jb))) (fun _ hk => hk.2) (.int .i64 ((zn Jc Jd).f0))) (fun _ hk => hk.2) (.int .i64 ((zn Jc Jd).f1))) (fun _ hk => hk.2) (.int .i64 ((zn Jc Jd).f2))) (fun _ hk => hk.2) (.int .i64 ((zn Jc Jd).f3))) (fun _ hk => hk.1.2)))⟩; have n1_ : ze (w14.heap[Jb]? = some (.cells #[.int .i64 ((zn Jc Jd).f0), .int .i64 ((zn Jc Jd).f1), .int .i64 ((zn Jc Jd).f2), .int .i64 ((zn Jc Jd).f3)] 82 (0, 0))) := ⟨(by rw [hw]; exact (by (with_reducible repeat (first | refine zg ?_ _ | refine zi ?_ | refine zh ?_ _)); refine zq (cs := #[.int .i64 ((zn Jc Jd).f0), .int .i64 ((zn Jc Jd).f1), .int .i64 ((zn Jc Jd).f2), .int .i64 0]) ?_ 3 _ rfl; (with_reducible repeat (first | refine zg ?_ _ | refine zi ?_ | refine zh ?_ _)); refine zq (cs := #[.int .i64 ((zn Jc Jd).f0), .int .i64 ((zn Jc Jd).f1), .int .i64 0, .int .i64 0]) ?_ 2 _ rfl; (with_reducible repeat (first | refine zg ?_ _ | refine zi ?_ | refine zh ?_ _)); refine zq (cs := #[.int .i64 ((zn Jc Jd).f0), .int .i64 0, .int .i64 0, .int .i64 0]) ?_ 1 _ rfl; (with_reducible repeat (first | refine zg ?_ _ | refine zi ?_ | refine zh ?_ _)); refine zq (cs := #[.int .i64 0, .int .i64 0, .int .i64 0, .int .i64 0]) ?_ 0 _ rfl; (with_reducible repeat (first | refine zg ?_ _ | refine zi ?_ | refine zh ?_ _)); exact Ja.o))⟩; have n2_ : ze (Below w.heap.size w w14) := ⟨(by rw [hw]; exact (by repeat (first | (with_reducible first | exact HB.o | apply zl | apply zf | apply zk | refine zm ?_ Ji.o) | exact HB.o)))⟩; clear hw; clear Jf; clear Ja; clear HB; have Jf := n0_; have Ja := n1_; have HB := n2_; clear n0_ n1_ n2_; have GG : w14.cell? ⟨Jb, 0, none⟩ = some (.int .i64 ((zn Jc Jd).f0)) := (zb Ja.o 0).trans rfl; have GD : w14.cell? ⟨Jb, 1, none⟩ = some (.int .i64 ((zn Jc Jd).f1)) := (zb Ja.o 1).trans rfl; have Gz : w14.cell? ⟨Jb, 2, none⟩ = some (.int .i64 ((zn Jc Jd).f2)) := (zb Ja.o 2).trans rfl; have Gy : w14.cell? ⟨Jb, 3, none⟩ = some (.int .i64 ((zn Jc Jd).f3)) := (zb Ja.o 3).trans rfl; have Gf := za Ja.o 0; have Gd := za Ja.o 1; have Gc := za Ja.o 2; have Gb := za Ja.o 3) | (go_at_call 48; (with_reducible refine (plan_part_end.calls ((zn Jc Jd).f0) ((zn Jc Jd).f1) ((zn Jc Jd).f2) ((zn Jc Jd).f3) t141 _ A9.o).mono ?_); rintro e w16 ⟨rfl, hb⟩; have n0_ := ze.mk (Kd.zS (by (with_reducible repeat (first | apply Kd.zz | apply Kd.zA | apply Kd.zF)); exact Jf.o) hb); have n1_ := ze.mk (zK (g := Jb) (o := .cells #[.int .i64 ((zn Jc Jd).f0), .int .i64 ((zn Jc Jd).f1), .int .i64 ((zn Jc Jd).f2), .int .i64 ((zn Jc Jd).f3)] 82 (0, 0)) (by (with_reducible repeat (first | refine zg ?_ _ | refine zi ?_ | refine zh ?_ _)); exact Ja.o) hb); have n2_ := ze.mk (zu (by repeat (first | (with_reducible first | exact HB.o | apply zl | apply zf | apply zk | refine zm ?_ Ji.o) | exact HB.o)) hb); clear Jf; clear Ja; clear HB; have Jf := n0_; have Ja := n1_; have HB := n2_; clear n0_ n1_ n2_; (try clear hb); (try clear hb2); (try clear hk); (try clear hi); have JJ : w16.cell? ⟨Jb, 0, none⟩ = some (.int .i64 ((zn Jc Jd).f0)) := (zb Ja.o 0).trans rfl; have JI : w16.cell? ⟨Jb, 1, none⟩ = some (.int .i64 ((zn Jc Jd).f1)) := (zb Ja.o 1).trans rfl; have JH : w16.cell? ⟨Jb, 2, none⟩ = some (.int .i64 ((zn Jc Jd).f2)) := (zb Ja.o 2).trans rfl; have JG : w16.cell? ⟨Jb, 3, none⟩ = some (.int .i64 ((zn Jc Jd).f3)) := (zb Ja.o 3).trans rfl; have JB := za Ja.o 0; have JA := za Ja.o 1; have Jz := za Ja.o 2; have Jy := za Ja.o 3)))
         go_ret2
         exact ⟨by first | rfl | (simp [zy, zx] <;> rfl) | (simp [*, zy, zx] <;> rfl), by repeat (first | (with_reducible first | exact HB.o | apply zl | apply zf | apply zk | refine zm ?_ Ji.o) | exact HB.o)⟩
       ·rw [if_neg c10] at H
        have Bj : decide (a0 < t141) = false := decide_eq_false c10
        clear c10
        have H' := ze.mk H
        clear H
        have JQ : 0 ≤ (Jd : Int) := of_decide_eq_true (by first | (with_reducible assumption) | assumption)
        have JP : Jd < (Jc.length : Int) := of_decide_eq_true (by first | (with_reducible assumption) | assumption)
        obtain ⟨Jl, Dc, JW, JV, JU, JS⟩ := at_T82 (Kd.zQ Jf.o).2.2 Jd JQ JP
        cases Dc
        replace JQ := eq_true JQ
        replace JP := eq_true JP
        go_wp2_with (first | ((with_reducible refine zD (N := 5) rfl ?_); refine zC ?hg (N := 5) ?hd (cs := #[.int .i64 0, .int .i64 0, .int .i64 0, .int .i64 0]) (t := 82) ?hr ?_; (case hd => rfl); (case hg => rfl); (case hr => first | (go_simp; done) | (go_simp; rfl)); intro Jb hg w18 hbox hb; have n0_ := ze.mk (Kd.zS (Kd.yF (by (with_reducible repeat (first | apply Kd.zz | apply Kd.zA | apply Kd.zF)); exact Jf.o) Jb (Nat.le_of_eq hg.symm)) hb); have n1_ := ze.mk (zu (by repeat (first | (with_reducible first | exact HB.o | apply zl | apply zf | apply zk) | exact HB.o)) hb); have n2_ := ze.mk (hbox); have n3_ := ze.mk ((by rw [hg]; exact (zt (by repeat (first | (with_reducible first | exact HB.o | apply zl | apply zf | apply zk) | exact HB.o))) : w.heap.size ≤ Jb)); have n4_ := ze.mk ((by rw [hg]; exact (zt (by repeat (first | (with_reducible first | exact HB.o | apply zl | apply zf | apply zk) | exact HB.o))) : w.heap.size ≤ Jb)); clear Jf; clear HB; have Jf := n0_; have HB := n1_; have Ja := n2_; have Jp := n3_; have Ji := n4_; clear n0_ n1_ n2_ n3_ n4_; clear hb hbox hg; have JF : w18.cell? ⟨Jb, 0, none⟩ = some (.int .i64 0) := (zb Ja.o 0).trans rfl; have JE : w18.cell? ⟨Jb, 1, none⟩ = some (.int .i64 0) := (zb Ja.o 1).trans rfl; have JD : w18.cell? ⟨Jb, 2, none⟩ = some (.int .i64 0) := (zb Ja.o 2).trans rfl; have JC : w18.cell? ⟨Jb, 3, none⟩ = some (.int .i64 0) := (zb Ja.o 3).trans rfl; have Jw := za Ja.o 0; have Jv := za Ja.o 1; have Ju := za Ja.o 2; have Jt := za Ja.o 3) | ((with_reducible refine zJ (t := 82) (p := 5) rfl ?_); (try (rw [zW w18]; generalize hq_ : World.drewN w18 _ = w18; have n0_ := ze.mk (Kd.R_at hq_ Jf.o); have n1_ := ze.mk (yT hq_ Ja.o); have n2_ := ze.mk (yB hq_ HB.o); clear hq_ Jf Ja HB; have Jf := n0_; have Ja := n1_; have HB := n2_; clear n0_ n1_ n2_)); refine zH (t := 82) (p := 5) (v := ?vo_w20) (w1 := ((((w18.setCell ⟨Jb, 0, none⟩ (.int .i64 ((zn Jc Jd).f0))).setCell ⟨Jb, 1, none⟩ (.int .i64 ((zn Jc Jd).f1))).setCell ⟨Jb, 2, none⟩ (.int .i64 ((zn Jc Jd).f2))).setCell ⟨Jb, 3, none⟩ (.int .i64 ((zn Jc Jd).f3)))) ?hg ?ho ?hn ?hr ?_; (case ho => rfl); (case hg => rfl); (case hn => rfl); (case hr => exact zM rfl rfl rfl (zP (P := Tryz.prog) (o := 0) (cur := #[.int .i64 0, .int .i64 0, .int .i64 0, .int .i64 0]) 82 (.agg #[.int .i64 ((zn Jc Jd).f0), .int .i64 ((zn Jc Jd).f1), .int .i64 ((zn Jc Jd).f2), .int .i64 ((zn Jc Jd).f3)]) [.int .i64 ((zn Jc Jd).f0), .int .i64 ((zn Jc Jd).f1), .int .i64 ((zn Jc Jd).f2), .int .i64 ((zn Jc Jd).f3)] (show _ = some (Obj.cells #[.int .i64 0, .int .i64 0, .int .i64 0, .int .i64 0] 82 (0, 0)) from (by (with_reducible repeat (first | refine zg ?_ _ | refine zi ?_ | refine zh ?_ _)); exact Ja.o)) rfl (by kernel_rfl) (show 4 ≤ 4 by decide) (by intro q_ hq_; simp only [List.mem_cons, List.not_mem_nil, or_false] at hq_; rcases hq_ with rfl | rfl | rfl | rfl <;> rfl))); intro w20 hw; have n0_ : ze (Kd.R k82 82 w20 w.heap.size (fun k_ => k_ ≠ Jb) (.slice (some Jl) Jc.length co4) Jc) := ⟨(by rw [hw]; exact (by (with_reducible repeat (first | apply Kd.zz | apply Kd.zA | apply Kd.zF)); exact Kd.zT (Kd.R_far (p := ⟨Jb, 3, none⟩) (Kd.R_far (p := ⟨Jb, 2, none⟩) (Kd.R_far (p := ⟨Jb, 1, none⟩) (Kd.R_far (p := ⟨Jb, 0, none⟩) (Kd.zT Jf.o (fun k_ hk => (⟨hk, hk.2⟩ : _ ∧ k_ ≠ Jb))) (fun _ hk => hk.2) (.int .i64 ((zn Jc Jd).f0))) (fun _ hk => hk.2) (.int .i64 ((zn Jc Jd).f1))) (fun _ hk => hk.2) (.int .i64 ((zn Jc Jd).f2))) (fun _ hk => hk.2) (.int .i64 ((zn Jc Jd).f3))) (fun _ hk => hk.1.2)))⟩; have n1_ : ze (w20.heap[Jb]? = some (.cells #[.int .i64 ((zn Jc Jd).f0), .int .i64 ((zn Jc Jd).f1), .int .i64 ((zn Jc Jd).f2), .int .i64 ((zn Jc Jd).f3)] 82 (0, 0))) := ⟨(by rw [hw]; exact (by (with_reducible repeat (first | refine zg ?_ _ | refine zi ?_ | refine zh ?_ _)); refine zq (cs := #[.int .i64 ((zn Jc Jd).f0), .int .i64 ((zn Jc Jd).f1), .int .i64 ((zn Jc Jd).f2), .int .i64 0]) ?_ 3 _ rfl; (with_reducible repeat (first | refine zg ?_ _ | refine zi ?_ | refine zh ?_ _)); refine zq (cs := #[.int .i64 ((zn Jc Jd).f0), .int .i64 ((zn Jc Jd).f1), .int .i64 0, .int .i64 0]) ?_ 2 _ rfl; (with_reducible repeat (first | refine zg ?_ _ | refine zi ?_ | refine zh ?_ _)); refine zq (cs := #[.int .i64 ((zn Jc Jd).f0), .int .i64 0, .int .i64 0, .int .i64 0]) ?_ 1 _ rfl; (with_reducible repeat (first | refine zg ?_ _ | refine zi ?_ | refine zh ?_ _)); refine zq (cs := #[.int .i64 0, .int .i64 0, .int .i64 0, .int .i64 0]) ?_ 0 _ rfl; (with_reducible repeat (first | refine zg ?_ _ | refine zi ?_ | refine zh ?_ _)); exact Ja.o))⟩; have n2_ : ze (Below w.heap.size w w20) := ⟨(by rw [hw]; exact (by repeat (first | (with_reducible first | exact HB.o | apply zl | apply zf | apply zk | refine zm ?_ Ji.o) | exact HB.o)))⟩; clear hw; clear Jf; clear Ja; clear HB; have Jf := n0_; have Ja := n1_; have HB := n2_; clear n0_ n1_ n2_; have Gx : w20.cell? ⟨Jb, 0, none⟩ = some (.int .i64 ((zn Jc Jd).f0)) := (zb Ja.o 0).trans rfl; have Gw : w20.cell? ⟨Jb, 1, none⟩ = some (.int .i64 ((zn Jc Jd).f1)) := (zb Ja.o 1).trans rfl; have Gv : w20.cell? ⟨Jb, 2, none⟩ = some (.int .i64 ((zn Jc Jd).f2)) := (zb Ja.o 2).trans rfl; have Gu : w20.cell? ⟨Jb, 3, none⟩ = some (.int .i64 ((zn Jc Jd).f3)) := (zb Ja.o 3).trans rfl; have Ga := za Ja.o 0; have J9 := za Ja.o 1; have J8 := za Ja.o 2; have J7 := za Ja.o 3) | (go_at_call 48; (with_reducible refine (plan_part_end.calls ((zn Jc Jd).f0) ((zn Jc Jd).f1) ((zn Jc Jd).f2) ((zn Jc Jd).f3) t141 _ A9.o).mono ?_); rintro e w22 ⟨rfl, hb⟩; have n0_ := ze.mk (Kd.zS (by (with_reducible repeat (first | apply Kd.zz | apply Kd.zA | apply Kd.zF)); exact Jf.o) hb); have n1_ := ze.mk (zK (g := Jb) (o := .cells #[.int .i64 ((zn Jc Jd).f0), .int .i64 ((zn Jc Jd).f1), .int .i64 ((zn Jc Jd).f2), .int .i64 ((zn Jc Jd).f3)] 82 (0, 0)) (by (with_reducible repeat (first | refine zg ?_ _ | refine zi ?_ | refine zh ?_ _)); exact Ja.o) hb); have n2_ := ze.mk (zu (by repeat (first | (with_reducible first | exact HB.o | apply zl | apply zf | apply zk | refine zm ?_ Ji.o) | exact HB.o)) hb); clear Jf; clear Ja; clear HB; have Jf := n0_; have Ja := n1_; have HB := n2_; clear n0_ n1_ n2_; (try clear hb); (try clear hb2); (try clear hk); (try clear hi)))
        repeat (go_quiet (first | ((with_reducible refine zD (N := 5) rfl ?_); refine zC ?hg (N := 5) ?hd (cs := #[.int .i64 0, .int .i64 0, .int .i64 0, .int .i64 0]) (t := 82) ?hr ?_; (case hd => rfl); (case hg => rfl); (case hr => first | (go_simp; done) | (go_simp; rfl)); intro Jb hg w18 hbox hb; have n0_ := ze.mk (Kd.zS (Kd.yF (by (with_reducible repeat (first | apply Kd.zz | apply Kd.zA | apply Kd.zF)); exact Jf.o) Jb (Nat.le_of_eq hg.symm)) hb); have n1_ := ze.mk (zu (by repeat (first | (with_reducible first | exact HB.o | apply zl | apply zf | apply zk) | exact HB.o)) hb); have n2_ := ze.mk (hbox); have n3_ := ze.mk ((by rw [hg]; exact (zt (by repeat (first | (with_reducible first | exact HB.o | apply zl | apply zf | apply zk) | exact HB.o))) : w.heap.size ≤ Jb)); have n4_ := ze.mk ((by rw [hg]; exact (zt (by repeat (first | (with_reducible first | exact HB.o | apply zl | apply zf | apply zk) | exact HB.o))) : w.heap.size ≤ Jb)); clear Jf; clear HB; have Jf := n0_; have HB := n1_; have Ja := n2_; have Jp := n3_; have Ji := n4_; clear n0_ n1_ n2_ n3_ n4_; clear hb hbox hg; have JF : w18.cell? ⟨Jb, 0, none⟩ = some (.int .i64 0) := (zb Ja.o 0).trans rfl; have JE : w18.cell? ⟨Jb, 1, none⟩ = some (.int .i64 0) := (zb Ja.o 1).trans rfl; have JD : w18.cell? ⟨Jb, 2, none⟩ = some (.int .i64 0) := (zb Ja.o 2).trans rfl; have JC : w18.cell? ⟨Jb, 3, none⟩ = some (.int .i64 0) := (zb Ja.o 3).trans rfl; have Jw := za Ja.o 0; have Jv := za Ja.o 1; have Ju := za Ja.o 2; have Jt := za Ja.o 3) | ((with_reducible refine zJ (t := 82) (p := 5) rfl ?_); (try (rw [zW w18]; generalize hq_ : World.drewN w18 _ = w18; have n0_ := ze.mk (Kd.R_at hq_ Jf.o); have n1_ := ze.mk (yT hq_ Ja.o); have n2_ := ze.mk (yB hq_ HB.o); clear hq_ Jf Ja HB; have Jf := n0_; have Ja := n1_; have HB := n2_; clear n0_ n1_ n2_)); refine zH (t := 82) (p := 5) (v := ?vo_w20) (w1 := ((((w18.setCell ⟨Jb, 0, none⟩ (.int .i64 ((zn Jc Jd).f0))).setCell ⟨Jb, 1, none⟩ (.int .i64 ((zn Jc Jd).f1))).setCell ⟨Jb, 2, none⟩ (.int .i64 ((zn Jc Jd).f2))).setCell ⟨Jb, 3, none⟩ (.int .i64 ((zn Jc Jd).f3)))) ?hg ?ho ?hn ?hr ?_; (case ho => rfl); (case hg => rfl); (case hn => rfl); (case hr => exact zM rfl rfl rfl (zP (P := Tryz.prog) (o := 0) (cur := #[.int .i64 0, .int .i64 0, .int .i64 0, .int .i64 0]) 82 (.agg #[.int .i64 ((zn Jc Jd).f0), .int .i64 ((zn Jc Jd).f1), .int .i64 ((zn Jc Jd).f2), .int .i64 ((zn Jc Jd).f3)]) [.int .i64 ((zn Jc Jd).f0), .int .i64 ((zn Jc Jd).f1), .int .i64 ((zn Jc Jd).f2), .int .i64 ((zn Jc Jd).f3)] (show _ = some (Obj.cells #[.int .i64 0, .int .i64 0, .int .i64 0, .int .i64 0] 82 (0, 0)) from (by (with_reducible repeat (first | refine zg ?_ _ | refine zi ?_ | refine zh ?_ _)); exact Ja.o)) rfl (by kernel_rfl) (show 4 ≤ 4 by decide) (by intro q_ hq_; simp only [List.mem_cons, List.not_mem_nil, or_false] at hq_; rcases hq_ with rfl | rfl | rfl | rfl <;> rfl))); intro w20 hw; have n0_ : ze (Kd.R k82 82 w20 w.heap.size (fun k_ => k_ ≠ Jb) (.slice (some Jl) Jc.length co4) Jc) := ⟨(by rw [hw]; exact (by (with_reducible repeat (first | apply Kd.zz | apply Kd.zA | apply Kd.zF)); exact Kd.zT (Kd.R_far (p := ⟨Jb, 3, none⟩) (Kd.R_far (p := ⟨Jb, 2, none⟩) (Kd.R_far (p := ⟨Jb, 1, none⟩) (Kd.R_far (p := ⟨Jb, 0, none⟩) (Kd.zT Jf.o (fun k_ hk => (⟨hk, hk.2⟩ : _ ∧ k_ ≠ Jb))) (fun _ hk => hk.2) (.int .i64 ((zn Jc Jd).f0))) (fun _ hk => hk.2) (.int .i64 ((zn Jc Jd).f1))) (fun _ hk => hk.2) (.int .i64 ((zn Jc Jd).f2))) (fun _ hk => hk.2) (.int .i64 ((zn Jc Jd).f3))) (fun _ hk => hk.1.2)))⟩; have n1_ : ze (w20.heap[Jb]? = some (.cells #[.int .i64 ((zn Jc Jd).f0), .int .i64 ((zn Jc Jd).f1), .int .i64 ((zn Jc Jd).f2), .int .i64 ((zn Jc Jd).f3)] 82 (0, 0))) := ⟨(by rw [hw]; exact (by (with_reducible repeat (first | refine zg ?_ _ | refine zi ?_ | refine zh ?_ _)); refine zq (cs := #[.int .i64 ((zn Jc Jd).f0), .int .i64 ((zn Jc Jd).f1), .int .i64 ((zn Jc Jd).f2), .int .i64 0]) ?_ 3 _ rfl; (with_reducible repeat (first | refine zg ?_ _ | refine zi ?_ | refine zh ?_ _)); refine zq (cs := #[.int .i64 ((zn Jc Jd).f0), .int .i64 ((zn Jc Jd).f1), .int .i64 0, .int .i64 0]) ?_ 2 _ rfl; (with_reducible repeat (first | refine zg ?_ _ | refine zi ?_ | refine zh ?_ _)); refine zq (cs := #[.int .i64 ((zn Jc Jd).f0), .int .i64 0, .int .i64 0, .int .i64 0]) ?_ 1 _ rfl; (with_reducible repeat (first | refine zg ?_ _ | refine zi ?_ | refine zh ?_ _)); refine zq (cs := #[.int .i64 0, .int .i64 0, .int .i64 0, .int .i64 0]) ?_ 0 _ rfl; (with_reducible repeat (first | refine zg ?_ _ | refine zi ?_ | refine zh ?_ _)); exact Ja.o))⟩; have n2_ : ze (Below w.heap.size w w20) := ⟨(by rw [hw]; exact (by repeat (first | (with_reducible first | exact HB.o | apply zl | apply zf | apply zk | refine zm ?_ Ji.o) | exact HB.o)))⟩; clear hw; clear Jf; clear Ja; clear HB; have Jf := n0_; have Ja := n1_; have HB := n2_; clear n0_ n1_ n2_; have Gx : w20.cell? ⟨Jb, 0, none⟩ = some (.int .i64 ((zn Jc Jd).f0)) := (zb Ja.o 0).trans rfl; have Gw : w20.cell? ⟨Jb, 1, none⟩ = some (.int .i64 ((zn Jc Jd).f1)) := (zb Ja.o 1).trans rfl; have Gv : w20.cell? ⟨Jb, 2, none⟩ = some (.int .i64 ((zn Jc Jd).f2)) := (zb Ja.o 2).trans rfl; have Gu : w20.cell? ⟨Jb, 3, none⟩ = some (.int .i64 ((zn Jc Jd).f3)) := (zb Ja.o 3).trans rfl; have Ga := za Ja.o 0; have J9 := za Ja.o 1; have J8 := za Ja.o 2; have J7 := za Ja.o 3) | (go_at_call 48; (try simp only [i64_w, i32_w]); (with_reducible refine (plan_part_end.calls ((zn Jc Jd).f0) ((zn Jc Jd).f1) ((zn Jc Jd).f2) ((zn Jc Jd).f3) t141 _ A9.o).mono ?_); rintro e w22 ⟨rfl, hb⟩; have n0_ := ze.mk (Kd.zS (by (with_reducible repeat (first | apply Kd.zz | apply Kd.zA | apply Kd.zF)); exact Jf.o) hb); have n1_ := ze.mk (zK (g := Jb) (o := .cells #[.int .i64 ((zn Jc Jd).f0), .int .i64 ((zn Jc Jd).f1), .int .i64 ((zn Jc Jd).f2), .int .i64 ((zn Jc Jd).f3)] 82 (0, 0)) (by (with_reducible repeat (first | refine zg ?_ _ | refine zi ?_ | refine zh ?_ _)); exact Ja.o) hb); have n2_ := ze.mk (zu (by repeat (first | (with_reducible first | exact HB.o | apply zl | apply zf | apply zk | refine zm ?_ Ji.o) | exact HB.o)) hb); clear Jf; clear Ja; clear HB; have Jf := n0_; have Ja := n1_; have HB := n2_; clear n0_ n1_ n2_; (try clear hb); (try clear hb2); (try clear hk); (try clear hi))); try go_wp2_with (first | ((with_reducible refine zD (N := 5) rfl ?_); refine zC ?hg (N := 5) ?hd (cs := #[.int .i64 0, .int .i64 0, .int .i64 0, .int .i64 0]) (t := 82) ?hr ?_; (case hd => rfl); (case hg => rfl); (case hr => first | (go_simp; done) | (go_simp; rfl)); intro Jb hg w18 hbox hb; have n0_ := ze.mk (Kd.zS (Kd.yF (by (with_reducible repeat (first | apply Kd.zz | apply Kd.zA | apply Kd.zF)); exact Jf.o) Jb (Nat.le_of_eq hg.symm)) hb); have n1_ := ze.mk (zu (by repeat (first | (with_reducible first | exact HB.o | apply zl | apply zf | apply zk) | exact HB.o)) hb); have n2_ := ze.mk (hbox); have n3_ := ze.mk ((by rw [hg]; exact (zt (by repeat (first | (with_reducible first | exact HB.o | apply zl | apply zf | apply zk) | exact HB.o))) : w.heap.size ≤ Jb)); have n4_ := ze.mk ((by rw [hg]; exact (zt (by repeat (first | (with_reducible first | exact HB.o | apply zl | apply zf | apply zk) | exact HB.o))) : w.heap.size ≤ Jb)); clear Jf; clear HB; have Jf := n0_; have HB := n1_; have Ja := n2_; have Jp := n3_; have Ji := n4_; clear n0_ n1_ n2_ n3_ n4_; clear hb hbox hg; have JF : w18.cell? ⟨Jb, 0, none⟩ = some (.int .i64 0) := (zb Ja.o 0).trans rfl; have JE : w18.cell? ⟨Jb, 1, none⟩ = some (.int .i64 0) := (zb Ja.o 1).trans rfl; have JD : w18.cell? ⟨Jb, 2, none⟩ = some (.int .i64 0) := (zb Ja.o 2).trans rfl; have JC : w18.cell? ⟨Jb, 3, none⟩ = some (.int .i64 0) := (zb Ja.o 3).trans rfl; have Jw := za Ja.o 0; have Jv := za Ja.o 1; have Ju := za Ja.o 2; have Jt := za Ja.o 3) | ((with_reducible refine zJ (t := 82) (p := 5) rfl ?_); (try (rw [zW w18]; generalize hq_ : World.drewN w18 _ = w18; have n0_ := ze.mk (Kd.R_at hq_ Jf.o); have n1_ := ze.mk (yT hq_ Ja.o); have n2_ := ze.mk (yB hq_ HB.o); clear hq_ Jf Ja HB; have Jf := n0_; have Ja := n1_; have HB := n2_; clear n0_ n1_ n2_)); refine zH (t := 82) (p := 5) (v := ?vo_w20) (w1 := ((((w18.setCell ⟨Jb, 0, none⟩ (.int .i64 ((zn Jc Jd).f0))).setCell ⟨Jb, 1, none⟩ (.int .i64 ((zn Jc Jd).f1))).setCell ⟨Jb, 2, none⟩ (.int .i64 ((zn Jc Jd).f2))).setCell ⟨Jb, 3, none⟩ (.int .i64 ((zn Jc Jd).f3)))) ?hg ?ho ?hn ?hr ?_; (case ho => rfl); (case hg => rfl); (case hn => rfl); (case hr => exact zM rfl rfl rfl (zP (P := Tryz.prog) (o := 0) (cur := #[.int .i64 0, .int .i64 0, .int .i64 0, .int .i64 0]) 82 (.agg #[.int .i64 ((zn Jc Jd).f0), .int .i64 ((zn Jc Jd).f1), .int .i64 ((zn Jc Jd).f2), .int .i64 ((zn Jc Jd).f3)]) [.int .i64 ((zn Jc Jd).f0), .int .i64 ((zn Jc Jd).f1), .int .i64 ((zn Jc Jd).f2), .int .i64 ((zn Jc Jd).f3)] (show _ = some (Obj.cells #[.int .i64 0, .int .i64 0, .int .i64 0, .int .i64 0] 82 (0, 0)) from (by (with_reducible repeat (first | refine zg ?_ _ | refine zi ?_ | refine zh ?_ _)); exact Ja.o)) rfl (by kernel_rfl) (show 4 ≤ 4 by decide) (by intro q_ hq_; simp only [List.mem_cons, List.not_mem_nil, or_false] at hq_; rcases hq_ with rfl | rfl | rfl | rfl <;> rfl))); intro w20 hw; have n0_ : ze (Kd.R k82 82 w20 w.heap.size (fun k_ => k_ ≠ Jb) (.slice (some Jl) Jc.length co4) Jc) := ⟨(by rw [hw]; exact (by (with_reducible repeat (first | apply Kd.zz | apply Kd.zA | apply Kd.zF)); exact Kd.zT (Kd.R_far (p := ⟨Jb, 3, none⟩) (Kd.R_far (p := ⟨Jb, 2, none⟩) (Kd.R_far (p := ⟨Jb, 1, none⟩) (Kd.R_far (p := ⟨Jb, 0, none⟩) (Kd.zT Jf.o (fun k_ hk => (⟨hk, hk.2⟩ : _ ∧ k_ ≠ Jb))) (fun _ hk => hk.2) (.int .i64 ((zn Jc Jd).f0))) (fun _ hk => hk.2) (.int .i64 ((zn Jc Jd).f1))) (fun _ hk => hk.2) (.int .i64 ((zn Jc Jd).f2))) (fun _ hk => hk.2) (.int .i64 ((zn Jc Jd).f3))) (fun _ hk => hk.1.2)))⟩; have n1_ : ze (w20.heap[Jb]? = some (.cells #[.int .i64 ((zn Jc Jd).f0), .int .i64 ((zn Jc Jd).f1), .int .i64 ((zn Jc Jd).f2), .int .i64 ((zn Jc Jd).f3)] 82 (0, 0))) := ⟨(by rw [hw]; exact (by (with_reducible repeat (first | refine zg ?_ _ | refine zi ?_ | refine zh ?_ _)); refine zq (cs := #[.int .i64 ((zn Jc Jd).f0), .int .i64 ((zn Jc Jd).f1), .int .i64 ((zn Jc Jd).f2), .int .i64 0]) ?_ 3 _ rfl; (with_reducible repeat (first | refine zg ?_ _ | refine zi ?_ | refine zh ?_ _)); refine zq (cs := #[.int .i64 ((zn Jc Jd).f0), .int .i64 ((zn Jc Jd).f1), .int .i64 0, .int .i64 0]) ?_ 2 _ rfl; (with_reducible repeat (first | refine zg ?_ _ | refine zi ?_ | refine zh ?_ _)); refine zq (cs := #[.int .i64 ((zn Jc Jd).f0), .int .i64 0, .int .i64 0, .int .i64 0]) ?_ 1 _ rfl; (with_reducible repeat (first | refine zg ?_ _ | refine zi ?_ | refine zh ?_ _)); refine zq (cs := #[.int .i64 0, .int .i64 0, .int .i64 0, .int .i64 0]) ?_ 0 _ rfl; (with_reducible repeat (first | refine zg ?_ _ | refine zi ?_ | refine zh ?_ _)); exact Ja.o))⟩; have n2_ : ze (Below w.heap.size w w20) := ⟨(by rw [hw]; exact (by repeat (first | (with_reducible first | exact HB.o | apply zl | apply zf | apply zk | refine zm ?_ Ji.o) | exact HB.o)))⟩; clear hw; clear Jf; clear Ja; clear HB; have Jf := n0_; have Ja := n1_; have HB := n2_; clear n0_ n1_ n2_; have Gx : w20.cell? ⟨Jb, 0, none⟩ = some (.int .i64 ((zn Jc Jd).f0)) := (zb Ja.o 0).trans rfl; have Gw : w20.cell? ⟨Jb, 1, none⟩ = some (.int .i64 ((zn Jc Jd).f1)) := (zb Ja.o 1).trans rfl; have Gv : w20.cell? ⟨Jb, 2, none⟩ = some (.int .i64 ((zn Jc Jd).f2)) := (zb Ja.o 2).trans rfl; have Gu : w20.cell? ⟨Jb, 3, none⟩ = some (.int .i64 ((zn Jc Jd).f3)) := (zb Ja.o 3).trans rfl; have Ga := za Ja.o 0; have J9 := za Ja.o 1; have J8 := za Ja.o 2; have J7 := za Ja.o 3) | (go_at_call 48; (with_reducible refine (plan_part_end.calls ((zn Jc Jd).f0) ((zn Jc Jd).f1) ((zn Jc Jd).f2) ((zn Jc Jd).f3) t141 _ A9.o).mono ?_); rintro e w22 ⟨rfl, hb⟩; have n0_ := ze.mk (Kd.zS (by (with_reducible repeat (first | apply Kd.zz | apply Kd.zA | apply Kd.zF)); exact Jf.o) hb); have n1_ := ze.mk (zK (g := Jb) (o := .cells #[.int .i64 ((zn Jc Jd).f0), .int .i64 ((zn Jc Jd).f1), .int .i64 ((zn Jc Jd).f2), .int .i64 ((zn Jc Jd).f3)] 82 (0, 0)) (by (with_reducible repeat (first | refine zg ?_ _ | refine zi ?_ | refine zh ?_ _)); exact Ja.o) hb); have n2_ := ze.mk (zu (by repeat (first | (with_reducible first | exact HB.o | apply zl | apply zf | apply zk | refine zm ?_ Ji.o) | exact HB.o)) hb); clear Jf; clear Ja; clear HB; have Jf := n0_; have Ja := n1_; have HB := n2_; clear n0_ n1_ n2_; (try clear hb); (try clear hb2); (try clear hk); (try clear hi))))
        go_roundg k1
        case measure => have := HK1.o; omega
        case rel => exact ⟨(wrap64 (Jd + 1)), (by first | rfl | (simp; done) | (simp [*]; done) | kernel_rfl), H', ⟨by have := HK1.o; omega⟩, ⟨by (with_reducible repeat (first | apply Kd.zz | apply Kd.zA | apply Kd.zF)); exact Kd.zT Jf.o (fun _ hk => trivial)⟩, ⟨by repeat (first | (with_reducible first | exact HB.o | apply zl | apply zf | apply zk | refine zm ?_ Ji.o) | exact HB.o)⟩⟩
      ·rw [if_neg c8] at H
       have Bg : decide (((zn Jc Jd).f1) ≤ a0) = false := decide_eq_false c8
       clear c8
       have H' := ze.mk H
       clear H
       have JQ : 0 ≤ (Jd : Int) := of_decide_eq_true (by first | (with_reducible assumption) | assumption)
       have JP : Jd < (Jc.length : Int) := of_decide_eq_true (by first | (with_reducible assumption) | assumption)
       obtain ⟨Jl, Dc, JW, JV, JU, JS⟩ := at_T82 (Kd.zQ Jf.o).2.2 Jd JQ JP
       cases Dc
       replace JQ := eq_true JQ
       replace JP := eq_true JP
       go_wp2_with (first | ((with_reducible refine zD (N := 5) rfl ?_); refine zC ?hg (N := 5) ?hd (cs := #[.int .i64 0, .int .i64 0, .int .i64 0, .int .i64 0]) (t := 82) ?hr ?_; (case hd => rfl); (case hg => rfl); (case hr => first | (go_simp; done) | (go_simp; rfl)); intro Jb hg w23 hbox hb; have n0_ := ze.mk (Kd.zS (Kd.yF (by (with_reducible repeat (first | apply Kd.zz | apply Kd.zA | apply Kd.zF)); exact Jf.o) Jb (Nat.le_of_eq hg.symm)) hb); have n1_ := ze.mk (zu (by repeat (first | (with_reducible first | exact HB.o | apply zl | apply zf | apply zk) | exact HB.o)) hb); have n2_ := ze.mk (hbox); have n3_ := ze.mk ((by rw [hg]; exact (zt (by repeat (first | (with_reducible first | exact HB.o | apply zl | apply zf | apply zk) | exact HB.o))) : w.heap.size ≤ Jb)); have n4_ := ze.mk ((by rw [hg]; exact (zt (by repeat (first | (with_reducible first | exact HB.o | apply zl | apply zf | apply zk) | exact HB.o))) : w.heap.size ≤ Jb)); clear Jf; clear HB; have Jf := n0_; have HB := n1_; have Ja := n2_; have Jp := n3_; have Ji := n4_; clear n0_ n1_ n2_ n3_ n4_; clear hb hbox hg; have Gt : w23.cell? ⟨Jb, 0, none⟩ = some (.int .i64 0) := (zb Ja.o 0).trans rfl; have Gs : w23.cell? ⟨Jb, 1, none⟩ = some (.int .i64 0) := (zb Ja.o 1).trans rfl; have Gr : w23.cell? ⟨Jb, 2, none⟩ = some (.int .i64 0) := (zb Ja.o 2).trans rfl; have Gq : w23.cell? ⟨Jb, 3, none⟩ = some (.int .i64 0) := (zb Ja.o 3).trans rfl; have J6 := za Ja.o 0; have J5 := za Ja.o 1; have J4 := za Ja.o 2; have J3 := za Ja.o 3) | ((with_reducible refine zJ (t := 82) (p := 5) rfl ?_); (try (rw [zW w23]; generalize hq_ : World.drewN w23 _ = w23; have n0_ := ze.mk (Kd.R_at hq_ Jf.o); have n1_ := ze.mk (yT hq_ Ja.o); have n2_ := ze.mk (yB hq_ HB.o); clear hq_ Jf Ja HB; have Jf := n0_; have Ja := n1_; have HB := n2_; clear n0_ n1_ n2_)); refine zH (t := 82) (p := 5) (v := ?vo_w25) (w1 := ((((w23.setCell ⟨Jb, 0, none⟩ (.int .i64 ((zn Jc Jd).f0))).setCell ⟨Jb, 1, none⟩ (.int .i64 ((zn Jc Jd).f1))).setCell ⟨Jb, 2, none⟩ (.int .i64 ((zn Jc Jd).f2))).setCell ⟨Jb, 3, none⟩ (.int .i64 ((zn Jc Jd).f3)))) ?hg ?ho ?hn ?hr ?_; (case ho => rfl); (case hg => rfl); (case hn => rfl); (case hr => exact zM rfl rfl rfl (zP (P := Tryz.prog) (o := 0) (cur := #[.int .i64 0, .int .i64 0, .int .i64 0, .int .i64 0]) 82 (.agg #[.int .i64 ((zn Jc Jd).f0), .int .i64 ((zn Jc Jd).f1), .int .i64 ((zn Jc Jd).f2), .int .i64 ((zn Jc Jd).f3)]) [.int .i64 ((zn Jc Jd).f0), .int .i64 ((zn Jc Jd).f1), .int .i64 ((zn Jc Jd).f2), .int .i64 ((zn Jc Jd).f3)] (show _ = some (Obj.cells #[.int .i64 0, .int .i64 0, .int .i64 0, .int .i64 0] 82 (0, 0)) from (by (with_reducible repeat (first | refine zg ?_ _ | refine zi ?_ | refine zh ?_ _)); exact Ja.o)) rfl (by kernel_rfl) (show 4 ≤ 4 by decide) (by intro q_ hq_; simp only [List.mem_cons, List.not_mem_nil, or_false] at hq_; rcases hq_ with rfl | rfl | rfl | rfl <;> rfl))); intro w25 hw; have n0_ : ze (Kd.R k82 82 w25 w.heap.size (fun k_ => k_ ≠ Jb) (.slice (some Jl) Jc.length co4) Jc) := ⟨(by rw [hw]; exact (by (with_reducible repeat (first | apply Kd.zz | apply Kd.zA | apply Kd.zF)); exact Kd.zT (Kd.R_far (p := ⟨Jb, 3, none⟩) (Kd.R_far (p := ⟨Jb, 2, none⟩) (Kd.R_far (p := ⟨Jb, 1, none⟩) (Kd.R_far (p := ⟨Jb, 0, none⟩) (Kd.zT Jf.o (fun k_ hk => (⟨hk, hk.2⟩ : _ ∧ k_ ≠ Jb))) (fun _ hk => hk.2) (.int .i64 ((zn Jc Jd).f0))) (fun _ hk => hk.2) (.int .i64 ((zn Jc Jd).f1))) (fun _ hk => hk.2) (.int .i64 ((zn Jc Jd).f2))) (fun _ hk => hk.2) (.int .i64 ((zn Jc Jd).f3))) (fun _ hk => hk.1.2)))⟩; have n1_ : ze (w25.heap[Jb]? = some (.cells #[.int .i64 ((zn Jc Jd).f0), .int .i64 ((zn Jc Jd).f1), .int .i64 ((zn Jc Jd).f2), .int .i64 ((zn Jc Jd).f3)] 82 (0, 0))) := ⟨(by rw [hw]; exact (by (with_reducible repeat (first | refine zg ?_ _ | refine zi ?_ | refine zh ?_ _)); refine zq (cs := #[.int .i64 ((zn Jc Jd).f0), .int .i64 ((zn Jc Jd).f1), .int .i64 ((zn Jc Jd).f2), .int .i64 0]) ?_ 3 _ rfl; (with_reducible repeat (first | refine zg ?_ _ | refine zi ?_ | refine zh ?_ _)); refine zq (cs := #[.int .i64 ((zn Jc Jd).f0), .int .i64 ((zn Jc Jd).f1), .int .i64 0, .int .i64 0]) ?_ 2 _ rfl; (with_reducible repeat (first | refine zg ?_ _ | refine zi ?_ | refine zh ?_ _)); refine zq (cs := #[.int .i64 ((zn Jc Jd).f0), .int .i64 0, .int .i64 0, .int .i64 0]) ?_ 1 _ rfl; (with_reducible repeat (first | refine zg ?_ _ | refine zi ?_ | refine zh ?_ _)); refine zq (cs := #[.int .i64 0, .int .i64 0, .int .i64 0, .int .i64 0]) ?_ 0 _ rfl; (with_reducible repeat (first | refine zg ?_ _ | refine zi ?_ | refine zh ?_ _)); exact Ja.o))⟩; have n2_ : ze (Below w.heap.size w w25) := ⟨(by rw [hw]; exact (by repeat (first | (with_reducible first | exact HB.o | apply zl | apply zf | apply zk | refine zm ?_ Ji.o) | exact HB.o)))⟩; clear hw; clear Jf; clear Ja; clear HB; have Jf := n0_; have Ja := n1_; have HB := n2_; clear n0_ n1_ n2_; have Gp : w25.cell? ⟨Jb, 0, none⟩ = some (.int .i64 ((zn Jc Jd).f0)) := (zb Ja.o 0).trans rfl; have Gn : w25.cell? ⟨Jb, 1, none⟩ = some (.int .i64 ((zn Jc Jd).f1)) := (zb Ja.o 1).trans rfl; have Gm : w25.cell? ⟨Jb, 2, none⟩ = some (.int .i64 ((zn Jc Jd).f2)) := (zb Ja.o 2).trans rfl; have Gl : w25.cell? ⟨Jb, 3, none⟩ = some (.int .i64 ((zn Jc Jd).f3)) := (zb Ja.o 3).trans rfl; have J2 := za Ja.o 0; have JZ := za Ja.o 1; have JY := za Ja.o 2; have JX := za Ja.o 3))
       repeat (go_quiet (first | ((with_reducible refine zD (N := 5) rfl ?_); refine zC ?hg (N := 5) ?hd (cs := #[.int .i64 0, .int .i64 0, .int .i64 0, .int .i64 0]) (t := 82) ?hr ?_; (case hd => rfl); (case hg => rfl); (case hr => first | (go_simp; done) | (go_simp; rfl)); intro Jb hg w23 hbox hb; have n0_ := ze.mk (Kd.zS (Kd.yF (by (with_reducible repeat (first | apply Kd.zz | apply Kd.zA | apply Kd.zF)); exact Jf.o) Jb (Nat.le_of_eq hg.symm)) hb); have n1_ := ze.mk (zu (by repeat (first | (with_reducible first | exact HB.o | apply zl | apply zf | apply zk) | exact HB.o)) hb); have n2_ := ze.mk (hbox); have n3_ := ze.mk ((by rw [hg]; exact (zt (by repeat (first | (with_reducible first | exact HB.o | apply zl | apply zf | apply zk) | exact HB.o))) : w.heap.size ≤ Jb)); have n4_ := ze.mk ((by rw [hg]; exact (zt (by repeat (first | (with_reducible first | exact HB.o | apply zl | apply zf | apply zk) | exact HB.o))) : w.heap.size ≤ Jb)); clear Jf; clear HB; have Jf := n0_; have HB := n1_; have Ja := n2_; have Jp := n3_; have Ji := n4_; clear n0_ n1_ n2_ n3_ n4_; clear hb hbox hg; have Gt : w23.cell? ⟨Jb, 0, none⟩ = some (.int .i64 0) := (zb Ja.o 0).trans rfl; have Gs : w23.cell? ⟨Jb, 1, none⟩ = some (.int .i64 0) := (zb Ja.o 1).trans rfl; have Gr : w23.cell? ⟨Jb, 2, none⟩ = some (.int .i64 0) := (zb Ja.o 2).trans rfl; have Gq : w23.cell? ⟨Jb, 3, none⟩ = some (.int .i64 0) := (zb Ja.o 3).trans rfl; have J6 := za Ja.o 0; have J5 := za Ja.o 1; have J4 := za Ja.o 2; have J3 := za Ja.o 3) | ((with_reducible refine zJ (t := 82) (p := 5) rfl ?_); (try (rw [zW w23]; generalize hq_ : World.drewN w23 _ = w23; have n0_ := ze.mk (Kd.R_at hq_ Jf.o); have n1_ := ze.mk (yT hq_ Ja.o); have n2_ := ze.mk (yB hq_ HB.o); clear hq_ Jf Ja HB; have Jf := n0_; have Ja := n1_; have HB := n2_; clear n0_ n1_ n2_)); refine zH (t := 82) (p := 5) (v := ?vo_w25) (w1 := ((((w23.setCell ⟨Jb, 0, none⟩ (.int .i64 ((zn Jc Jd).f0))).setCell ⟨Jb, 1, none⟩ (.int .i64 ((zn Jc Jd).f1))).setCell ⟨Jb, 2, none⟩ (.int .i64 ((zn Jc Jd).f2))).setCell ⟨Jb, 3, none⟩ (.int .i64 ((zn Jc Jd).f3)))) ?hg ?ho ?hn ?hr ?_; (case ho => rfl); (case hg => rfl); (case hn => rfl); (case hr => exact zM rfl rfl rfl (zP (P := Tryz.prog) (o := 0) (cur := #[.int .i64 0, .int .i64 0, .int .i64 0, .int .i64 0]) 82 (.agg #[.int .i64 ((zn Jc Jd).f0), .int .i64 ((zn Jc Jd).f1), .int .i64 ((zn Jc Jd).f2), .int .i64 ((zn Jc Jd).f3)]) [.int .i64 ((zn Jc Jd).f0), .int .i64 ((zn Jc Jd).f1), .int .i64 ((zn Jc Jd).f2), .int .i64 ((zn Jc Jd).f3)] (show _ = some (Obj.cells #[.int .i64 0, .int .i64 0, .int .i64 0, .int .i64 0] 82 (0, 0)) from (by (with_reducible repeat (first | refine zg ?_ _ | refine zi ?_ | refine zh ?_ _)); exact Ja.o)) rfl (by kernel_rfl) (show 4 ≤ 4 by decide) (by intro q_ hq_; simp only [List.mem_cons, List.not_mem_nil, or_false] at hq_; rcases hq_ with rfl | rfl | rfl | rfl <;> rfl))); intro w25 hw; have n0_ : ze (Kd.R k82 82 w25 w.heap.size (fun k_ => k_ ≠ Jb) (.slice (some Jl) Jc.length co4) Jc) := ⟨(by rw [hw]; exact (by (with_reducible repeat (first | apply Kd.zz | apply Kd.zA | apply Kd.zF)); exact Kd.zT (Kd.R_far (p := ⟨Jb, 3, none⟩) (Kd.R_far (p := ⟨Jb, 2, none⟩) (Kd.R_far (p := ⟨Jb, 1, none⟩) (Kd.R_far (p := ⟨Jb, 0, none⟩) (Kd.zT Jf.o (fun k_ hk => (⟨hk, hk.2⟩ : _ ∧ k_ ≠ Jb))) (fun _ hk => hk.2) (.int .i64 ((zn Jc Jd).f0))) (fun _ hk => hk.2) (.int .i64 ((zn Jc Jd).f1))) (fun _ hk => hk.2) (.int .i64 ((zn Jc Jd).f2))) (fun _ hk => hk.2) (.int .i64 ((zn Jc Jd).f3))) (fun _ hk => hk.1.2)))⟩; have n1_ : ze (w25.heap[Jb]? = some (.cells #[.int .i64 ((zn Jc Jd).f0), .int .i64 ((zn Jc Jd).f1), .int .i64 ((zn Jc Jd).f2), .int .i64 ((zn Jc Jd).f3)] 82 (0, 0))) := ⟨(by rw [hw]; exact (by (with_reducible repeat (first | refine zg ?_ _ | refine zi ?_ | refine zh ?_ _)); refine zq (cs := #[.int .i64 ((zn Jc Jd).f0), .int .i64 ((zn Jc Jd).f1), .int .i64 ((zn Jc Jd).f2), .int .i64 0]) ?_ 3 _ rfl; (with_reducible repeat (first | refine zg ?_ _ | refine zi ?_ | refine zh ?_ _)); refine zq (cs := #[.int .i64 ((zn Jc Jd).f0), .int .i64 ((zn Jc Jd).f1), .int .i64 0, .int .i64 0]) ?_ 2 _ rfl; (with_reducible repeat (first | refine zg ?_ _ | refine zi ?_ | refine zh ?_ _)); refine zq (cs := #[.int .i64 ((zn Jc Jd).f0), .int .i64 0, .int .i64 0, .int .i64 0]) ?_ 1 _ rfl; (with_reducible repeat (first | refine zg ?_ _ | refine zi ?_ | refine zh ?_ _)); refine zq (cs := #[.int .i64 0, .int .i64 0, .int .i64 0, .int .i64 0]) ?_ 0 _ rfl; (with_reducible repeat (first | refine zg ?_ _ | refine zi ?_ | refine zh ?_ _)); exact Ja.o))⟩; have n2_ : ze (Below w.heap.size w w25) := ⟨(by rw [hw]; exact (by repeat (first | (with_reducible first | exact HB.o | apply zl | apply zf | apply zk | refine zm ?_ Ji.o) | exact HB.o)))⟩; clear hw; clear Jf; clear Ja; clear HB; have Jf := n0_; have Ja := n1_; have HB := n2_; clear n0_ n1_ n2_; have Gp : w25.cell? ⟨Jb, 0, none⟩ = some (.int .i64 ((zn Jc Jd).f0)) := (zb Ja.o 0).trans rfl; have Gn : w25.cell? ⟨Jb, 1, none⟩ = some (.int .i64 ((zn Jc Jd).f1)) := (zb Ja.o 1).trans rfl; have Gm : w25.cell? ⟨Jb, 2, none⟩ = some (.int .i64 ((zn Jc Jd).f2)) := (zb Ja.o 2).trans rfl; have Gl : w25.cell? ⟨Jb, 3, none⟩ = some (.int .i64 ((zn Jc Jd).f3)) := (zb Ja.o 3).trans rfl; have J2 := za Ja.o 0; have JZ := za Ja.o 1; have JY := za Ja.o 2; have JX := za Ja.o 3)); try go_wp2_with (first | ((with_reducible refine zD (N := 5) rfl ?_); refine zC ?hg (N := 5) ?hd (cs := #[.int .i64 0, .int .i64 0, .int .i64 0, .int .i64 0]) (t := 82) ?hr ?_; (case hd => rfl); (case hg => rfl); (case hr => first | (go_simp; done) | (go_simp; rfl)); intro Jb hg w23 hbox hb; have n0_ := ze.mk (Kd.zS (Kd.yF (by (with_reducible repeat (first | apply Kd.zz | apply Kd.zA | apply Kd.zF)); exact Jf.o) Jb (Nat.le_of_eq hg.symm)) hb); have n1_ := ze.mk (zu (by repeat (first | (with_reducible first | exact HB.o | apply zl | apply zf | apply zk) | exact HB.o)) hb); have n2_ := ze.mk (hbox); have n3_ := ze.mk ((by rw [hg]; exact (zt (by repeat (first | (with_reducible first | exact HB.o | apply zl | apply zf | apply zk) | exact HB.o))) : w.heap.size ≤ Jb)); have n4_ := ze.mk ((by rw [hg]; exact (zt (by repeat (first | (with_reducible first | exact HB.o | apply zl | apply zf | apply zk) | exact HB.o))) : w.heap.size ≤ Jb)); clear Jf; clear HB; have Jf := n0_; have HB := n1_; have Ja := n2_; have Jp := n3_; have Ji := n4_; clear n0_ n1_ n2_ n3_ n4_; clear hb hbox hg; have Gt : w23.cell? ⟨Jb, 0, none⟩ = some (.int .i64 0) := (zb Ja.o 0).trans rfl; have Gs : w23.cell? ⟨Jb, 1, none⟩ = some (.int .i64 0) := (zb Ja.o 1).trans rfl; have Gr : w23.cell? ⟨Jb, 2, none⟩ = some (.int .i64 0) := (zb Ja.o 2).trans rfl; have Gq : w23.cell? ⟨Jb, 3, none⟩ = some (.int .i64 0) := (zb Ja.o 3).trans rfl; have J6 := za Ja.o 0; have J5 := za Ja.o 1; have J4 := za Ja.o 2; have J3 := za Ja.o 3) | ((with_reducible refine zJ (t := 82) (p := 5) rfl ?_); (try (rw [zW w23]; generalize hq_ : World.drewN w23 _ = w23; have n0_ := ze.mk (Kd.R_at hq_ Jf.o); have n1_ := ze.mk (yT hq_ Ja.o); have n2_ := ze.mk (yB hq_ HB.o); clear hq_ Jf Ja HB; have Jf := n0_; have Ja := n1_; have HB := n2_; clear n0_ n1_ n2_)); refine zH (t := 82) (p := 5) (v := ?vo_w25) (w1 := ((((w23.setCell ⟨Jb, 0, none⟩ (.int .i64 ((zn Jc Jd).f0))).setCell ⟨Jb, 1, none⟩ (.int .i64 ((zn Jc Jd).f1))).setCell ⟨Jb, 2, none⟩ (.int .i64 ((zn Jc Jd).f2))).setCell ⟨Jb, 3, none⟩ (.int .i64 ((zn Jc Jd).f3)))) ?hg ?ho ?hn ?hr ?_; (case ho => rfl); (case hg => rfl); (case hn => rfl); (case hr => exact zM rfl rfl rfl (zP (P := Tryz.prog) (o := 0) (cur := #[.int .i64 0, .int .i64 0, .int .i64 0, .int .i64 0]) 82 (.agg #[.int .i64 ((zn Jc Jd).f0), .int .i64 ((zn Jc Jd).f1), .int .i64 ((zn Jc Jd).f2), .int .i64 ((zn Jc Jd).f3)]) [.int .i64 ((zn Jc Jd).f0), .int .i64 ((zn Jc Jd).f1), .int .i64 ((zn Jc Jd).f2), .int .i64 ((zn Jc Jd).f3)] (show _ = some (Obj.cells #[.int .i64 0, .int .i64 0, .int .i64 0, .int .i64 0] 82 (0, 0)) from (by (with_reducible repeat (first | refine zg ?_ _ | refine zi ?_ | refine zh ?_ _)); exact Ja.o)) rfl (by kernel_rfl) (show 4 ≤ 4 by decide) (by intro q_ hq_; simp only [List.mem_cons, List.not_mem_nil, or_false] at hq_; rcases hq_ with rfl | rfl | rfl | rfl <;> rfl))); intro w25 hw; have n0_ : ze (Kd.R k82 82 w25 w.heap.size (fun k_ => k_ ≠ Jb) (.slice (some Jl) Jc.length co4) Jc) := ⟨(by rw [hw]; exact (by (with_reducible repeat (first | apply Kd.zz | apply Kd.zA | apply Kd.zF)); exact Kd.zT (Kd.R_far (p := ⟨Jb, 3, none⟩) (Kd.R_far (p := ⟨Jb, 2, none⟩) (Kd.R_far (p := ⟨Jb, 1, none⟩) (Kd.R_far (p := ⟨Jb, 0, none⟩) (Kd.zT Jf.o (fun k_ hk => (⟨hk, hk.2⟩ : _ ∧ k_ ≠ Jb))) (fun _ hk => hk.2) (.int .i64 ((zn Jc Jd).f0))) (fun _ hk => hk.2) (.int .i64 ((zn Jc Jd).f1))) (fun _ hk => hk.2) (.int .i64 ((zn Jc Jd).f2))) (fun _ hk => hk.2) (.int .i64 ((zn Jc Jd).f3))) (fun _ hk => hk.1.2)))⟩; have n1_ : ze (w25.heap[Jb]? = some (.cells #[.int .i64 ((zn Jc Jd).f0), .int .i64 ((zn Jc Jd).f1), .int .i64 ((zn Jc Jd).f2), .int .i64 ((zn Jc Jd).f3)] 82 (0, 0))) := ⟨(by rw [hw]; exact (by (with_reducible repeat (first | refine zg ?_ _ | refine zi ?_ | refine zh ?_ _)); refine zq (cs := #[.int .i64 ((zn Jc Jd).f0), .int .i64 ((zn Jc Jd).f1), .int .i64 ((zn Jc Jd).f2), .int .i64 0]) ?_ 3 _ rfl; (with_reducible repeat (first | refine zg ?_ _ | refine zi ?_ | refine zh ?_ _)); refine zq (cs := #[.int .i64 ((zn Jc Jd).f0), .int .i64 ((zn Jc Jd).f1), .int .i64 0, .int .i64 0]) ?_ 2 _ rfl; (with_reducible repeat (first | refine zg ?_ _ | refine zi ?_ | refine zh ?_ _)); refine zq (cs := #[.int .i64 ((zn Jc Jd).f0), .int .i64 0, .int .i64 0, .int .i64 0]) ?_ 1 _ rfl; (with_reducible repeat (first | refine zg ?_ _ | refine zi ?_ | refine zh ?_ _)); refine zq (cs := #[.int .i64 0, .int .i64 0, .int .i64 0, .int .i64 0]) ?_ 0 _ rfl; (with_reducible repeat (first | refine zg ?_ _ | refine zi ?_ | refine zh ?_ _)); exact Ja.o))⟩; have n2_ : ze (Below w.heap.size w w25) := ⟨(by rw [hw]; exact (by repeat (first | (with_reducible first | exact HB.o | apply zl | apply zf | apply zk | refine zm ?_ Ji.o) | exact HB.o)))⟩; clear hw; clear Jf; clear Ja; clear HB; have Jf := n0_; have Ja := n1_; have HB := n2_; clear n0_ n1_ n2_; have Gp : w25.cell? ⟨Jb, 0, none⟩ = some (.int .i64 ((zn Jc Jd).f0)) := (zb Ja.o 0).trans rfl; have Gn : w25.cell? ⟨Jb, 1, none⟩ = some (.int .i64 ((zn Jc Jd).f1)) := (zb Ja.o 1).trans rfl; have Gm : w25.cell? ⟨Jb, 2, none⟩ = some (.int .i64 ((zn Jc Jd).f2)) := (zb Ja.o 2).trans rfl; have Gl : w25.cell? ⟨Jb, 3, none⟩ = some (.int .i64 ((zn Jc Jd).f3)) := (zb Ja.o 3).trans rfl; have J2 := za Ja.o 0; have JZ := za Ja.o 1; have JY := za Ja.o 2; have JX := za Ja.o 3)))
       go_roundg k1
       case measure => have := HK1.o; omega
       case rel => exact ⟨(wrap64 (Jd + 1)), (by first | rfl | (simp; done) | (simp [*]; done) | kernel_rfl), H', ⟨by have := HK1.o; omega⟩, ⟨by (with_reducible repeat (first | apply Kd.zz | apply Kd.zA | apply Kd.zF)); exact Kd.zT Jf.o (fun _ hk => trivial)⟩, ⟨by repeat (first | (with_reducible first | exact HB.o | apply zl | apply zf | apply zk | refine zm ?_ Ji.o) | exact HB.o)⟩⟩
     ·rw [if_neg c7] at H
      exact absurd H (by simp)
    ·rw [if_neg c6] at H
     exact absurd H (by simp)
   ·rw [if_neg c5] at H
    have Df : decide (Jd < (Jc.length : Int)) = false := decide_eq_false c5
    clear c5
    simp only [Option.some.injEq, Prod.mk.injEq] at H
    obtain ⟨rfl, rfl⟩ := H
    go_wp2
    repeat (go_quiet (fail); try go_wp2)
    go_ret2
    exact ⟨by first | rfl | (simp [zy, zx] <;> rfl) | (simp [*, zy, zx] <;> rfl), by repeat (first | (with_reducible first | exact HB.o | apply zl | apply zf | apply zk) | exact HB.o)⟩

/-! ### plan_Open: function 45 -/
def plan_Open.f (k : Nat) (a0 : Int) : Option (Bool) := (plan_What.f k a0).bind fun JM => (if JM.1 = 2 then (some true) else (if JM.1 = 3 then (some true) else (some (JM.1 == 5))))
set_option maxHeartbeats 8000000 in
set_option maxRecDepth 100000 in
theorem plan_Open.calls (k : Nat) (a0 : Int) (r : Bool) (w : World) (h : plan_Open.f k a0 = some r) :
  Calls Tryz.prog 45 #[.int .i64 a0] w fun e w' => e = .returned (.bool r) ∧ Below w.heap.size w w' := by
 have HB := ze.mk (Below.refl w.heap.size w)
 have H : ((plan_What.f k a0).bind fun JM => (if JM.1 = 2 then (some true) else (if JM.1 = 3 then (some true) else (some (JM.1 == 5))))) = some r := h
 clear h
 replace H := Option.bind_eq_some_iff.mp H
 obtain ⟨⟨Js, t143⟩, A20, H⟩ := H
 replace H : (if Js = 2 then (some true) else (if Js = 3 then (some true) else (some (Js == 5)))) = some r := H
 have A2 := ze.mk A20
 clear A20
 by_cases c3 : Js = 2
 ·rw [if_pos c3] at H
  have JO : (Js == 2) = true := beq_iff_eq.mpr c3
  have Bi : (Js != 2) = false := bne_eq_false_iff_eq.mpr c3
  clear c3
  obtain rfl := Option.some.inj H
  go_enter Tryz.func45, Tryz.ntmps45
  go_wp2_with (first | ((with_reducible refine zN (f := 63) rfl ?_); refine yh (some 7) rfl rfl Tryz.func63 (by kernel_rfl) rfl #[.int .i64 a0] rfl (by (try simp only [List.map_toArray, List.map_cons, List.map_nil]); first | done | rfl | (simp only [List.length_drop, List.length_take]; rfl)) ?_; (with_reducible refine (plan_What.calls k a0 Js t143 _ A2.o).mono ?_); rintro e w4 ⟨rfl, hb⟩; refine ⟨_, rfl, ?_⟩; have n0_ := ze.mk (zu (by repeat (first | (with_reducible first | exact HB.o | apply zl | apply zf | apply zk) | exact HB.o)) hb); clear HB; have HB := n0_; clear n0_; (try clear hb); (try clear hb2); (try clear hk); (try clear hi)))
  go_ret
  exact ⟨by first | rfl | (simp [zy, zx] <;> rfl) | (simp [*, zy, zx] <;> rfl), by repeat (first | (with_reducible first | exact HB.o | apply zl | apply zf | apply zk) | exact HB.o)⟩
 ·rw [if_neg c3] at H
  have JO : (Js == 2) = false := beq_eq_false_iff_ne.mpr c3
  have Bi : (Js != 2) = true := bne_iff_ne.mpr c3
  by_cases c5 : Js = 3
  ·rw [if_pos c5] at H
   have Df : (Js == 3) = true := beq_iff_eq.mpr c5
   have c5b1 : (Js != 3) = false := bne_eq_false_iff_eq.mpr c5
   clear c5
   obtain rfl := Option.some.inj H
   go_enter Tryz.func45, Tryz.ntmps45
   go_wp2_with (first | ((with_reducible refine zN (f := 63) rfl ?_); refine yh (some 7) rfl rfl Tryz.func63 (by kernel_rfl) rfl #[.int .i64 a0] rfl (by (try simp only [List.map_toArray, List.map_cons, List.map_nil]); first | done | rfl | (simp only [List.length_drop, List.length_take]; rfl)) ?_; (with_reducible refine (plan_What.calls k a0 Js t143 _ A2.o).mono ?_); rintro e w6 ⟨rfl, hb⟩; refine ⟨_, rfl, ?_⟩; have n0_ := ze.mk (zu (by repeat (first | (with_reducible first | exact HB.o | apply zl | apply zf | apply zk) | exact HB.o)) hb); clear HB; have HB := n0_; clear n0_; (try clear hb); (try clear hb2); (try clear hk); (try clear hi)))
   go_ret
   exact ⟨by first | rfl | (simp [zy, zx] <;> rfl) | (simp [*, zy, zx] <;> rfl), by repeat (first | (with_reducible first | exact HB.o | apply zl | apply zf | apply zk) | exact HB.o)⟩
  ·rw [if_neg c5] at H
   have Df : (Js == 3) = false := beq_eq_false_iff_ne.mpr c5
   have c5b1 : (Js != 3) = true := bne_iff_ne.mpr c5
   obtain rfl := Option.some.inj H
   go_enter Tryz.func45, Tryz.ntmps45
   go_wp2_with (first | ((with_reducible refine zN (f := 63) rfl ?_); refine yh (some 7) rfl rfl Tryz.func63 (by kernel_rfl) rfl #[.int .i64 a0] rfl (by (try simp only [List.map_toArray, List.map_cons, List.map_nil]); first | done | rfl | (simp only [List.length_drop, List.length_take]; rfl)) ?_; (with_reducible refine (plan_What.calls k a0 Js t143 _ A2.o).mono ?_); rintro e w7 ⟨rfl, hb⟩; refine ⟨_, rfl, ?_⟩; have n0_ := ze.mk (zu (by repeat (first | (with_reducible first | exact HB.o | apply zl | apply zf | apply zk) | exact HB.o)) hb); clear HB; have HB := n0_; clear n0_; (try clear hb); (try clear hb2); (try clear hk); (try clear hi)))
   go_ret
   exact ⟨by first | rfl | (simp [zy, zx] <;> rfl) | (simp [*, zy, zx] <;> rfl), by repeat (first | (with_reducible first | exact HB.o | apply zl | apply zf | apply zk) | exact HB.o)⟩

/-! ### plan_first: function 64 -/
def plan_first.f (k : Nat) (a0 : Int) (a1 : Int) : Option (Int × Int) := (plan_of.f k a0).bind fun JL => (if a1 < 0 then (some (0, 1)) else (if a1 ≥ JL.2.2.1 then (some (0, 1)) else (some (wrap64 (JL.2.1 + (wrap64 (a1 * JL.2.2.2))), 0))))
set_option maxHeartbeats 8000000 in
set_option maxRecDepth 100000 in
theorem plan_first.calls (k : Nat) (a0 : Int) (a1 : Int) (r1 : Int) (r2 : Int) (w : World) (h : plan_first.f k a0 a1 = some (r1, r2)) :
  Calls Tryz.prog 64 #[.int .i64 a0, .int .i64 a1] w fun e w' => e = .returned (.tuple #[.int .i64 r1, .int .i64 r2]) ∧ Below w.heap.size w w' := by
 have hu82 := Tryz.underlying82
 have HB := ze.mk (Below.refl w.heap.size w)
 have H : ((plan_of.f k a0).bind fun JL => (if a1 < 0 then (some (0, 1)) else (if a1 ≥ JL.2.2.1 then (some (0, 1)) else (some (wrap64 (JL.2.1 + (wrap64 (a1 * JL.2.2.2))), 0))))) = some (r1, r2) := h
 clear h
 replace H := Option.bind_eq_some_iff.mp H
 obtain ⟨⟨Jk, t145, t146, Jm⟩, A30, H⟩ := H
 replace H : (if a1 < 0 then (some (0, 1)) else (if a1 ≥ t146 then (some (0, 1)) else (some (wrap64 (t145 + (wrap64 (a1 * Jm))), 0)))) = some (r1, r2) := H
 have A3 := ze.mk A30
 clear A30
 by_cases c4 : a1 < 0
 ·rw [if_pos c4] at H
  have Bh : decide (a1 < 0) = true := decide_eq_true c4
  clear c4
  simp only [Option.some.injEq, Prod.mk.injEq] at H
  obtain ⟨rfl, rfl⟩ := H
  go_enter Tryz.func64, Tryz.ntmps64
  go_wp2_with (first | ((with_reducible refine zN (f := 47) rfl ?_); refine yh (some 8) rfl rfl Tryz.func47 (by kernel_rfl) rfl #[.int .i64 a0] rfl (by (try simp only [List.map_toArray, List.map_cons, List.map_nil]); first | done | rfl | (simp only [List.length_drop, List.length_take]; rfl)) ?_; (with_reducible refine (plan_of.calls k a0 Jk t145 t146 Jm _ A3.o).mono ?_); rintro e w5 ⟨rfl, hb⟩; refine ⟨_, rfl, ?_⟩; have n0_ := ze.mk (zu (by repeat (first | (with_reducible first | exact HB.o | apply zl | apply zf | apply zk) | exact HB.o)) hb); clear HB; have HB := n0_; clear n0_; (try clear hb); (try clear hb2); (try clear hk); (try clear hi)) | ((with_reducible refine zD (N := 6) rfl ?_); refine zC ?hg (N := 6) ?hd (cs := #[.int .i64 0, .int .i64 0, .int .i64 0, .int .i64 0]) (t := 82) ?hr ?_; (case hd => rfl); (case hg => rfl); (case hr => first | (go_simp; done) | (go_simp; rfl)); intro Jg hg w6 hbox hb; have n0_ := ze.mk (zu (by repeat (first | (with_reducible first | exact HB.o | apply zl | apply zf | apply zk) | exact HB.o)) hb); have n1_ := ze.mk (hbox); have n2_ := ze.mk ((by rw [hg]; exact (zt (by repeat (first | (with_reducible first | exact HB.o | apply zl | apply zf | apply zk) | exact HB.o))) : w.heap.size ≤ Jg)); have n3_ := ze.mk ((by rw [hg]; exact (zt (by repeat (first | (with_reducible first | exact HB.o | apply zl | apply zf | apply zk) | exact HB.o))) : w.heap.size ≤ Jg)); clear HB; have HB := n0_; have Je := n1_; have Dt := n2_; have Jq := n3_; clear n0_ n1_ n2_ n3_; clear hb hbox hg; have hcz7_0 : w6.cell? ⟨Jg, 0, none⟩ = some (.int .i64 0) := (zb Je.o 0).trans rfl; have hcz7_1 : w6.cell? ⟨Jg, 1, none⟩ = some (.int .i64 0) := (zb Je.o 1).trans rfl; have hcz7_2 : w6.cell? ⟨Jg, 2, none⟩ = some (.int .i64 0) := (zb Je.o 2).trans rfl; have hcz7_3 : w6.cell? ⟨Jg, 3, none⟩ = some (.int .i64 0) := (zb Je.o 3).trans rfl; have hfz7_0 := za Je.o 0; have hfz7_1 := za Je.o 1; have hfz7_2 := za Je.o 2; have hfz7_3 := za Je.o 3) | ((with_reducible refine zJ (t := 82) (p := 6) rfl ?_); refine zH (t := 82) (p := 6) (v := ?vo_w8) (w1 := ((((w6.setCell ⟨Jg, 0, none⟩ (.int .i64 Jk)).setCell ⟨Jg, 1, none⟩ (.int .i64 t145)).setCell ⟨Jg, 2, none⟩ (.int .i64 t146)).setCell ⟨Jg, 3, none⟩ (.int .i64 Jm))) ?hg ?ho ?hn ?hr ?_; (case ho => rfl); (case hg => rfl); (case hn => rfl); (case hr => exact zM rfl rfl rfl (zP (P := Tryz.prog) (o := 0) (cur := #[.int .i64 0, .int .i64 0, .int .i64 0, .int .i64 0]) 82 (.agg #[.int .i64 Jk, .int .i64 t145, .int .i64 t146, .int .i64 Jm]) [.int .i64 Jk, .int .i64 t145, .int .i64 t146, .int .i64 Jm] (show _ = some (Obj.cells #[.int .i64 0, .int .i64 0, .int .i64 0, .int .i64 0] 82 (0, 0)) from (by (with_reducible repeat (first | refine zg ?_ _ | refine zi ?_ | refine zh ?_ _)); exact Je.o)) rfl (by kernel_rfl) (show 4 ≤ 4 by decide) (by intro q_ hq_; simp only [List.mem_cons, List.not_mem_nil, or_false] at hq_; rcases hq_ with rfl | rfl | rfl | rfl <;> rfl))); intro w8 hw; have n0_ : ze (w8.heap[Jg]? = some (.cells #[.int .i64 Jk, .int .i64 t145, .int .i64 t146, .int .i64 Jm] 82 (0, 0))) := ⟨(by rw [hw]; exact (by (with_reducible repeat (first | refine zg ?_ _ | refine zi ?_ | refine zh ?_ _)); refine zq (cs := #[.int .i64 Jk, .int .i64 t145, .int .i64 t146, .int .i64 0]) ?_ 3 _ rfl; (with_reducible repeat (first | refine zg ?_ _ | refine zi ?_ | refine zh ?_ _)); refine zq (cs := #[.int .i64 Jk, .int .i64 t145, .int .i64 0, .int .i64 0]) ?_ 2 _ rfl; (with_reducible repeat (first | refine zg ?_ _ | refine zi ?_ | refine zh ?_ _)); refine zq (cs := #[.int .i64 Jk, .int .i64 0, .int .i64 0, .int .i64 0]) ?_ 1 _ rfl; (with_reducible repeat (first | refine zg ?_ _ | refine zi ?_ | refine zh ?_ _)); refine zq (cs := #[.int .i64 0, .int .i64 0, .int .i64 0, .int .i64 0]) ?_ 0 _ rfl; (with_reducible repeat (first | refine zg ?_ _ | refine zi ?_ | refine zh ?_ _)); exact Je.o))⟩; have n1_ : ze (Below w.heap.size w w8) := ⟨(by rw [hw]; exact (by repeat (first | (with_reducible first | exact HB.o | apply zl | apply zf | apply zk | refine zm ?_ Jq.o) | exact HB.o)))⟩; clear hw; clear Je; clear HB; have Je := n0_; have HB := n1_; clear n0_ n1_))
  go_ret2
  exact ⟨by first | rfl | (simp [zy, zx] <;> rfl) | (simp [*, zy, zx] <;> rfl), by repeat (first | (with_reducible first | exact HB.o | apply zl | apply zf | apply zk | refine zm ?_ Jq.o) | exact HB.o)⟩
 ·rw [if_neg c4] at H
  have Bh : decide (a1 < 0) = false := decide_eq_false c4
  clear c4
  by_cases c9 : a1 ≥ t146
  ·rw [if_pos c9] at H
   have c9b0 : decide (t146 ≤ a1) = true := decide_eq_true c9
   clear c9
   simp only [Option.some.injEq, Prod.mk.injEq] at H
   obtain ⟨rfl, rfl⟩ := H
   go_enter Tryz.func64, Tryz.ntmps64
   go_wp2_with (first | ((with_reducible refine zN (f := 47) rfl ?_); refine yh (some 8) rfl rfl Tryz.func47 (by kernel_rfl) rfl #[.int .i64 a0] rfl (by (try simp only [List.map_toArray, List.map_cons, List.map_nil]); first | done | rfl | (simp only [List.length_drop, List.length_take]; rfl)) ?_; (with_reducible refine (plan_of.calls k a0 Jk t145 t146 Jm _ A3.o).mono ?_); rintro e w10 ⟨rfl, hb⟩; refine ⟨_, rfl, ?_⟩; have n0_ := ze.mk (zu (by repeat (first | (with_reducible first | exact HB.o | apply zl | apply zf | apply zk) | exact HB.o)) hb); clear HB; have HB := n0_; clear n0_; (try clear hb); (try clear hb2); (try clear hk); (try clear hi)) | ((with_reducible refine zD (N := 6) rfl ?_); refine zC ?hg (N := 6) ?hd (cs := #[.int .i64 0, .int .i64 0, .int .i64 0, .int .i64 0]) (t := 82) ?hr ?_; (case hd => rfl); (case hg => rfl); (case hr => first | (go_simp; done) | (go_simp; rfl)); intro Jg hg w11 hbox hb; have n0_ := ze.mk (zu (by repeat (first | (with_reducible first | exact HB.o | apply zl | apply zf | apply zk) | exact HB.o)) hb); have n1_ := ze.mk (hbox); have n2_ := ze.mk ((by rw [hg]; exact (zt (by repeat (first | (with_reducible first | exact HB.o | apply zl | apply zf | apply zk) | exact HB.o))) : w.heap.size ≤ Jg)); have n3_ := ze.mk ((by rw [hg]; exact (zt (by repeat (first | (with_reducible first | exact HB.o | apply zl | apply zf | apply zk) | exact HB.o))) : w.heap.size ≤ Jg)); clear HB; have HB := n0_; have Je := n1_; have Dt := n2_; have Jq := n3_; clear n0_ n1_ n2_ n3_; clear hb hbox hg; have Bf : w11.cell? ⟨Jg, 0, none⟩ = some (.int .i64 0) := (zb Je.o 0).trans rfl; have Be : w11.cell? ⟨Jg, 1, none⟩ = some (.int .i64 0) := (zb Je.o 1).trans rfl; have Bd : w11.cell? ⟨Jg, 2, none⟩ = some (.int .i64 0) := (zb Je.o 2).trans rfl; have Bc : w11.cell? ⟨Jg, 3, none⟩ = some (.int .i64 0) := (zb Je.o 3).trans rfl; have DR := za Je.o 0; have DN := za Je.o 1; have DL := za Je.o 2; have DK := za Je.o 3) | ((with_reducible refine zJ (t := 82) (p := 6) rfl ?_); refine zH (t := 82) (p := 6) (v := ?vo_w13) (w1 := ((((w11.setCell ⟨Jg, 0, none⟩ (.int .i64 Jk)).setCell ⟨Jg, 1, none⟩ (.int .i64 t145)).setCell ⟨Jg, 2, none⟩ (.int .i64 t146)).setCell ⟨Jg, 3, none⟩ (.int .i64 Jm))) ?hg ?ho ?hn ?hr ?_; (case ho => rfl); (case hg => rfl); (case hn => rfl); (case hr => exact zM rfl rfl rfl (zP (P := Tryz.prog) (o := 0) (cur := #[.int .i64 0, .int .i64 0, .int .i64 0, .int .i64 0]) 82 (.agg #[.int .i64 Jk, .int .i64 t145, .int .i64 t146, .int .i64 Jm]) [.int .i64 Jk, .int .i64 t145, .int .i64 t146, .int .i64 Jm] (show _ = some (Obj.cells #[.int .i64 0, .int .i64 0, .int .i64 0, .int .i64 0] 82 (0, 0)) from (by (with_reducible repeat (first | refine zg ?_ _ | refine zi ?_ | refine zh ?_ _)); exact Je.o)) rfl (by kernel_rfl) (show 4 ≤ 4 by decide) (by intro q_ hq_; simp only [List.mem_cons, List.not_mem_nil, or_false] at hq_; rcases hq_ with rfl | rfl | rfl | rfl <;> rfl))); intro w13 hw; have n0_ : ze (w13.heap[Jg]? = some (.cells #[.int .i64 Jk, .int .i64 t145, .int .i64 t146, .int .i64 Jm] 82 (0, 0))) := ⟨(by rw [hw]; exact (by (with_reducible repeat (first | refine zg ?_ _ | refine zi ?_ | refine zh ?_ _)); refine zq (cs := #[.int .i64 Jk, .int .i64 t145, .int .i64 t146, .int .i64 0]) ?_ 3 _ rfl; (with_reducible repeat (first | refine zg ?_ _ | refine zi ?_ | refine zh ?_ _)); refine zq (cs := #[.int .i64 Jk, .int .i64 t145, .int .i64 0, .int .i64 0]) ?_ 2 _ rfl; (with_reducible repeat (first | refine zg ?_ _ | refine zi ?_ | refine zh ?_ _)); refine zq (cs := #[.int .i64 Jk, .int .i64 0, .int .i64 0, .int .i64 0]) ?_ 1 _ rfl; (with_reducible repeat (first | refine zg ?_ _ | refine zi ?_ | refine zh ?_ _)); refine zq (cs := #[.int .i64 0, .int .i64 0, .int .i64 0, .int .i64 0]) ?_ 0 _ rfl; (with_reducible repeat (first | refine zg ?_ _ | refine zi ?_ | refine zh ?_ _)); exact Je.o))⟩; have n1_ : ze (Below w.heap.size w w13) := ⟨(by rw [hw]; exact (by repeat (first | (with_reducible first | exact HB.o | apply zl | apply zf | apply zk | refine zm ?_ Jq.o) | exact HB.o)))⟩; clear hw; clear Je; clear HB; have Je := n0_; have HB := n1_; clear n0_ n1_; have D7 : w13.cell? ⟨Jg, 0, none⟩ = some (.int .i64 Jk) := (zb Je.o 0).trans rfl; have D6 : w13.cell? ⟨Jg, 1, none⟩ = some (.int .i64 t145) := (zb Je.o 1).trans rfl; have D5 : w13.cell? ⟨Jg, 2, none⟩ = some (.int .i64 t146) := (zb Je.o 2).trans rfl; have DZ : w13.cell? ⟨Jg, 3, none⟩ = some (.int .i64 Jm) := (zb Je.o 3).trans rfl; have DJ := za Je.o 0; have DI := za Je.o 1; have DF := za Je.o 2; have DD := za Je.o 3))
   go_ret2
   exact ⟨by first | rfl | (simp [zy, zx] <;> rfl) | (simp [*, zy, zx] <;> rfl), by repeat (first | (with_reducible first | exact HB.o | apply zl | apply zf | apply zk | refine zm ?_ Jq.o) | exact HB.o)⟩
  ·rw [if_neg c9] at H
   have c9b0 : decide (t146 ≤ a1) = false := decide_eq_false c9
   clear c9
   simp only [Option.some.injEq, Prod.mk.injEq] at H
   obtain ⟨rfl, rfl⟩ := H
   go_enter Tryz.func64, Tryz.ntmps64
   go_wp2_with (first | ((with_reducible refine zN (f := 47) rfl ?_); refine yh (some 8) rfl rfl Tryz.func47 (by kernel_rfl) rfl #[.int .i64 a0] rfl (by (try simp only [List.map_toArray, List.map_cons, List.map_nil]); first | done | rfl | (simp only [List.length_drop, List.length_take]; rfl)) ?_; (with_reducible refine (plan_of.calls k a0 Jk t145 t146 Jm _ A3.o).mono ?_); rintro e w15 ⟨rfl, hb⟩; refine ⟨_, rfl, ?_⟩; have n0_ := ze.mk (zu (by repeat (first | (with_reducible first | exact HB.o | apply zl | apply zf | apply zk) | exact HB.o)) hb); clear HB; have HB := n0_; clear n0_; (try clear hb); (try clear hb2); (try clear hk); (try clear hi)) | ((with_reducible refine zD (N := 6) rfl ?_); refine zC ?hg (N := 6) ?hd (cs := #[.int .i64 0, .int .i64 0, .int .i64 0, .int .i64 0]) (t := 82) ?hr ?_; (case hd => rfl); (case hg => rfl); (case hr => first | (go_simp; done) | (go_simp; rfl)); intro Jg hg w16 hbox hb; have n0_ := ze.mk (zu (by repeat (first | (with_reducible first | exact HB.o | apply zl | apply zf | apply zk) | exact HB.o)) hb); have n1_ := ze.mk (hbox); have n2_ := ze.mk ((by rw [hg]; exact (zt (by repeat (first | (with_reducible first | exact HB.o | apply zl | apply zf | apply zk) | exact HB.o))) : w.heap.size ≤ Jg)); have n3_ := ze.mk ((by rw [hg]; exact (zt (by repeat (first | (with_reducible first | exact HB.o | apply zl | apply zf | apply zk) | exact HB.o))) : w.heap.size ≤ Jg)); clear HB; have HB := n0_; have Je := n1_; have Dt := n2_; have Jq := n3_; clear n0_ n1_ n2_ n3_; clear hb hbox hg; have JJ : w16.cell? ⟨Jg, 0, none⟩ = some (.int .i64 0) := (zb Je.o 0).trans rfl; have JI : w16.cell? ⟨Jg, 1, none⟩ = some (.int .i64 0) := (zb Je.o 1).trans rfl; have JH : w16.cell? ⟨Jg, 2, none⟩ = some (.int .i64 0) := (zb Je.o 2).trans rfl; have JG : w16.cell? ⟨Jg, 3, none⟩ = some (.int .i64 0) := (zb Je.o 3).trans rfl; have JB := za Je.o 0; have JA := za Je.o 1; have Jz := za Je.o 2; have Jy := za Je.o 3) | ((with_reducible refine zJ (t := 82) (p := 6) rfl ?_); refine zH (t := 82) (p := 6) (v := ?vo_w18) (w1 := ((((w16.setCell ⟨Jg, 0, none⟩ (.int .i64 Jk)).setCell ⟨Jg, 1, none⟩ (.int .i64 t145)).setCell ⟨Jg, 2, none⟩ (.int .i64 t146)).setCell ⟨Jg, 3, none⟩ (.int .i64 Jm))) ?hg ?ho ?hn ?hr ?_; (case ho => rfl); (case hg => rfl); (case hn => rfl); (case hr => exact zM rfl rfl rfl (zP (P := Tryz.prog) (o := 0) (cur := #[.int .i64 0, .int .i64 0, .int .i64 0, .int .i64 0]) 82 (.agg #[.int .i64 Jk, .int .i64 t145, .int .i64 t146, .int .i64 Jm]) [.int .i64 Jk, .int .i64 t145, .int .i64 t146, .int .i64 Jm] (show _ = some (Obj.cells #[.int .i64 0, .int .i64 0, .int .i64 0, .int .i64 0] 82 (0, 0)) from (by (with_reducible repeat (first | refine zg ?_ _ | refine zi ?_ | refine zh ?_ _)); exact Je.o)) rfl (by kernel_rfl) (show 4 ≤ 4 by decide) (by intro q_ hq_; simp only [List.mem_cons, List.not_mem_nil, or_false] at hq_; rcases hq_ with rfl | rfl | rfl | rfl <;> rfl))); intro w18 hw; have n0_ : ze (w18.heap[Jg]? = some (.cells #[.int .i64 Jk, .int .i64 t145, .int .i64 t146, .int .i64 Jm] 82 (0, 0))) := ⟨(by rw [hw]; exact (by (with_reducible repeat (first | refine zg ?_ _ | refine zi ?_ | refine zh ?_ _)); refine zq (cs := #[.int .i64 Jk, .int .i64 t145, .int .i64 t146, .int .i64 0]) ?_ 3 _ rfl; (with_reducible repeat (first | refine zg ?_ _ | refine zi ?_ | refine zh ?_ _)); refine zq (cs := #[.int .i64 Jk, .int .i64 t145, .int .i64 0, .int .i64 0]) ?_ 2 _ rfl; (with_reducible repeat (first | refine zg ?_ _ | refine zi ?_ | refine zh ?_ _)); refine zq (cs := #[.int .i64 Jk, .int .i64 0, .int .i64 0, .int .i64 0]) ?_ 1 _ rfl; (with_reducible repeat (first | refine zg ?_ _ | refine zi ?_ | refine zh ?_ _)); refine zq (cs := #[.int .i64 0, .int .i64 0, .int .i64 0, .int .i64 0]) ?_ 0 _ rfl; (with_reducible repeat (first | refine zg ?_ _ | refine zi ?_ | refine zh ?_ _)); exact Je.o))⟩; have n1_ : ze (Below w.heap.size w w18) := ⟨(by rw [hw]; exact (by repeat (first | (with_reducible first | exact HB.o | apply zl | apply zf | apply zk | refine zm ?_ Jq.o) | exact HB.o)))⟩; clear hw; clear Je; clear HB; have Je := n0_; have HB := n1_; clear n0_ n1_; have JF : w18.cell? ⟨Jg, 0, none⟩ = some (.int .i64 Jk) := (zb Je.o 0).trans rfl; have JE : w18.cell? ⟨Jg, 1, none⟩ = some (.int .i64 t145) := (zb Je.o 1).trans rfl; have JD : w18.cell? ⟨Jg, 2, none⟩ = some (.int .i64 t146) := (zb Je.o 2).trans rfl; have JC : w18.cell? ⟨Jg, 3, none⟩ = some (.int .i64 Jm) := (zb Je.o 3).trans rfl; have Jw := za Je.o 0; have Jv := za Je.o 1; have Ju := za Je.o 2; have Jt := za Je.o 3))
   go_ret2
   exact ⟨by first | rfl | (simp [zy, zx] <;> rfl) | (simp [*, zy, zx] <;> rfl), by repeat (first | (with_reducible first | exact HB.o | apply zl | apply zf | apply zk | refine zm ?_ Jq.o) | exact HB.o)⟩

/-! ### plan_Owner: function 46 -/
def plan_Owner.f (k : Nat) (a0 : Int) : Option (Int × Int) := (plan_first.f k 3 a0).bind fun GM => (some (GM.1, GM.2))
set_option maxHeartbeats 8000000 in
set_option maxRecDepth 100000 in
theorem plan_Owner.calls (k : Nat) (a0 : Int) (r1 : Int) (r2 : Int) (w : World) (h : plan_Owner.f k a0 = some (r1, r2)) :
  Calls Tryz.prog 46 #[.int .i64 a0] w fun e w' => e = .returned (.tuple #[.int .i64 r1, .int .i64 r2]) ∧ Below w.heap.size w w' := by
 have HB := ze.mk (Below.refl w.heap.size w)
 have H : ((plan_first.f k 3 a0).bind fun GM => (some (GM.1, GM.2))) = some (r1, r2) := h
 clear h
 replace H := Option.bind_eq_some_iff.mp H
 obtain ⟨⟨t149, t150⟩, A20, H⟩ := H
 replace H : (some (t149, t150)) = some (r1, r2) := H
 have A2 := ze.mk A20
 clear A20
 simp only [Option.some.injEq, Prod.mk.injEq] at H
 obtain ⟨rfl, rfl⟩ := H
 go_enter Tryz.func46, Tryz.ntmps46
 go_wp2_with (first | ((with_reducible refine zN (f := 64) rfl ?_); refine yh (some 5) rfl rfl Tryz.func64 (by kernel_rfl) rfl #[.int .i64 3, .int .i64 a0] rfl (by (try simp only [List.map_toArray, List.map_cons, List.map_nil]); first | done | rfl | (simp only [List.length_drop, List.length_take]; rfl)) ?_; (with_reducible refine (plan_first.calls k 3 a0 t149 t150 _ A2.o).mono ?_); rintro e w3 ⟨rfl, hb⟩; refine ⟨_, rfl, ?_⟩; have n0_ := ze.mk (zu (by repeat (first | (with_reducible first | exact HB.o | apply zl | apply zf | apply zk) | exact HB.o)) hb); clear HB; have HB := n0_; clear n0_; (try clear hb); (try clear hb2); (try clear hk); (try clear hi)))
 go_ret2
 exact ⟨by first | rfl | (simp [zy, zx] <;> rfl) | (simp [*, zy, zx] <;> rfl), by repeat (first | (with_reducible first | exact HB.o | apply zl | apply zf | apply zk) | exact HB.o)⟩

/-! ### escritoirelaw08_early: function 8 -/
/-! ### escritoirelaw08_Op_kind: function 22 -/
def escritoirelaw08_Op_kind.f (Da : Int) (Dq : Int) (Dp : Int) (Dn : Int) (Dm : Int) (Dl : Int) (Dk : Int) (Dj : Int) (Di : Int) (Dh : Int) (GU : Int) (GR : Int) (GQ : Int) (Jo : List Int) (Jn : List Int) : Option (Int) := some (wrap64 (Int.tmod (IntKind.u64.wrap (Da)) 9))
set_option maxHeartbeats 8000000 in
set_option maxRecDepth 100000 in
theorem escritoirelaw08_Op_kind.calls (Da : Int) (Dq : Int) (Dp : Int) (Dn : Int) (Dm : Int) (Dl : Int) (Dk : Int) (Dj : Int) (Di : Int) (Dh : Int) (GU : Int) (GR : Int) (GQ : Int) (GZ : Option Addr) (GX : Nat) (Jo : List Int) (GY : Option Addr) (GV : Nat) (Jn : List Int) (r : Int) (w : World) (G7 : Kd.C (Kd.int .u64) w GZ Jo.length Jo) (G9 : Jo.length ≤ GX) (G5 : Kd.C (Kd.int .i64) w GY Jn.length Jn) (G8 : Jn.length ≤ GV) (h : escritoirelaw08_Op_kind.f Da Dq Dp Dn Dm Dl Dk Dj Di Dh GU GR GQ Jo Jn = some r) :
  Calls Tryz.prog 22 #[.agg #[.int .i64 Da, .int .i64 Dq, .int .u64 Dp, .int .i64 Dn, .int .i64 Dm, .int .i64 Dl, .int .u64 Dk, .int .i64 Dj, .int .i64 Di, .int .i64 Dh, .int .i64 GU, .int .i64 GR, .int .i64 GQ, .slice GZ Jo.length GX, .slice GY Jn.length GV]] w fun e w' => e = .returned (.int .i64 r) ∧ Below w.heap.size w w' := by
 have hu40 := Tryz.underlying40
 have HR0_13 := ze.mk G7
 have HC0_13 := ze.mk G9
 clear G7 G9
 have HR0_14 := ze.mk G5
 have HC0_14 := ze.mk G8
 clear G5 G8
 have HB := ze.mk (Below.refl w.heap.size w)
 have H : (some (wrap64 (Int.tmod (IntKind.u64.wrap (Da)) 9))) = some r := h
 clear h
 obtain rfl := Option.some.inj H
 go_enter Tryz.func22, Tryz.ntmps22
 go_wp2_with (first | ((with_reducible refine zD (N := 1) rfl ?_); refine zC ?hg (N := 1) ?hd (cs := #[.int .i64 Da, .int .i64 Dq, .int .u64 Dp, .int .i64 Dn, .int .i64 Dm, .int .i64 Dl, .int .u64 Dk, .int .i64 Dj, .int .i64 Di, .int .i64 Dh, .int .i64 GU, .int .i64 GR, .int .i64 GQ, .slice GZ Jo.length GX, .slice GY Jn.length GV]) (t := 40) ?hr ?_; (case hd => rfl); (case hg => rfl); (case hr => first | (go_simp; done) | (go_simp; rfl)); intro Jj hg w2 hbox hb; have n0_ := ze.mk (zu (by repeat (first | (with_reducible first | exact HB.o | apply zl | apply zf | apply zk) | exact HB.o)) hb); have n1_ := ze.mk (hbox); have n2_ := ze.mk ((by rw [hg]; exact (zt (by repeat (first | (with_reducible first | exact HB.o | apply zl | apply zf | apply zk) | exact HB.o))) : w.heap.size ≤ Jj)); have n3_ := ze.mk ((by rw [hg]; exact (zt (by repeat (first | (with_reducible first | exact HB.o | apply zl | apply zf | apply zk) | exact HB.o))) : w.heap.size ≤ Jj)); clear HB; have HB := n0_; have Jh := n1_; have GW159 := n2_; have Bq := n3_; clear n0_ n1_ n2_ n3_; clear hb hbox hg; have hcz3_0 : w2.cell? ⟨Jj, 0, none⟩ = some (.int .i64 Da) := (zb Jh.o 0).trans rfl; have hcz3_1 : w2.cell? ⟨Jj, 1, none⟩ = some (.int .i64 Dq) := (zb Jh.o 1).trans rfl; have hcz3_2 : w2.cell? ⟨Jj, 2, none⟩ = some (.int .u64 Dp) := (zb Jh.o 2).trans rfl; have hcz3_3 : w2.cell? ⟨Jj, 3, none⟩ = some (.int .i64 Dn) := (zb Jh.o 3).trans rfl; have hcz3_4 : w2.cell? ⟨Jj, 4, none⟩ = some (.int .i64 Dm) := (zb Jh.o 4).trans rfl; have hcz3_5 : w2.cell? ⟨Jj, 5, none⟩ = some (.int .i64 Dl) := (zb Jh.o 5).trans rfl; have hcz3_6 : w2.cell? ⟨Jj, 6, none⟩ = some (.int .u64 Dk) := (zb Jh.o 6).trans rfl; have hcz3_7 : w2.cell? ⟨Jj, 7, none⟩ = some (.int .i64 Dj) := (zb Jh.o 7).trans rfl; have hcz3_8 : w2.cell? ⟨Jj, 8, none⟩ = some (.int .i64 Di) := (zb Jh.o 8).trans rfl; have hcz3_9 : w2.cell? ⟨Jj, 9, none⟩ = some (.int .i64 Dh) := (zb Jh.o 9).trans rfl; have DY : w2.cell? ⟨Jj, 10, none⟩ = some (.int .i64 GU) := (zb Jh.o 10).trans rfl; have DW : w2.cell? ⟨Jj, 11, none⟩ = some (.int .i64 GR) := (zb Jh.o 11).trans rfl; have DV : w2.cell? ⟨Jj, 12, none⟩ = some (.int .i64 GQ) := (zb Jh.o 12).trans rfl; have DU : w2.cell? ⟨Jj, 13, none⟩ = some (.slice GZ Jo.length GX) := (zb Jh.o 13).trans rfl; have DT : w2.cell? ⟨Jj, 14, none⟩ = some (.slice GY Jn.length GV) := (zb Jh.o 14).trans rfl; have hfz3_0 := za Jh.o 0; have hfz3_1 := za Jh.o 1; have hfz3_2 := za Jh.o 2; have hfz3_3 := za Jh.o 3; have hfz3_4 := za Jh.o 4; have hfz3_5 := za Jh.o 5; have hfz3_6 := za Jh.o 6; have hfz3_7 := za Jh.o 7; have hfz3_8 := za Jh.o 8; have hfz3_9 := za Jh.o 9; have DC := za Jh.o 10; have Dz := za Jh.o 11; have Dy := za Jh.o 12; have Dx := za Jh.o 13; have Dw := za Jh.o 14))
 go_ret
 exact ⟨by first | rfl | (simp [zy, zx] <;> rfl) | (simp [*, zy, zx] <;> rfl), by repeat (first | (with_reducible first | exact HB.o | apply zl | apply zf | apply zk | refine zm ?_ Bq.o) | exact HB.o)⟩

/-! ### escritoireref05_What: function 66 -/
def escritoireref05_What.j0 : Nat → Int → Bool → Option (Int × Int)
 | 0, _, _ => none
 | k + 1, x0, x9 => if x9 = true then (some (0, 0)) else (if x0 < 8 then (some (1, 0)) else (if x0 < 200 then (some (2, wrap64 (Int.tdiv (wrap64 (x0 - 8)) 8))) else (if x0 < 296 then (some (3, wrap64 (x0 - 200))) else (if x0 < 1288 then (some (4, wrap64 (Int.tdiv (wrap64 (x0 - 296)) 248))) else (some (5, wrap64 (Int.tdiv (wrap64 (x0 - 1288)) 16)))))))
def escritoireref05_What.f (k : Nat) (a0 : Int) : Option (Int × Int) := if a0 < 0 then (escritoireref05_What.j0 k a0 true) else (escritoireref05_What.j0 k a0 (decide (a0 ≥ 2824)))
set_option maxHeartbeats 8000000 in
set_option maxRecDepth 100000 in
theorem escritoireref05_What.calls (k : Nat) (a0 : Int) (r1 : Int) (r2 : Int) (w : World) (h : escritoireref05_What.f k a0 = some (r1, r2)) :
  Calls Tryz.prog 66 #[.int .i64 a0] w fun e w' => e = .returned (.tuple #[.int .i64 r1, .int .i64 r2]) ∧ zL w w' := by
 have H : (if a0 < 0 then (escritoireref05_What.j0 k a0 true) else (escritoireref05_What.j0 k a0 (decide (a0 ≥ 2824)))) = some (r1, r2) := h
 clear h
 have HC2 := ze.mk H
 clear H
 go_enter Tryz.func66, Tryz.ntmps66
 go_upto_region 1 with (fail)
 go_cut [9] (fun v9 wc => ∃ (kq : Nat) (Du : Bool), v9 = .bool Du ∧ ze (escritoireref05_What.j0 kq a0 Du = some (r1, r2)) ∧ ze (kq ≤ k) ∧ zL w wc)
 case first =>
  have H := HC2.o
  clear HC2
  by_cases c3 : a0 < 0
  ·rw [if_pos c3] at H
   have JO : decide (a0 < 0) = true := decide_eq_true c3
   clear c3
   (first | rw [JO] | (simp only [i64_w, i32_w]; rw [JO]) | skip)
   have H' := ze.mk H
   clear H
   go_wp2
   go_meet
   case rel => exact ⟨_, (true), (by first | rfl | (simp; done) | (simp [*]; done) | kernel_rfl), H', ⟨by first | omega | exact Nat.le_refl _⟩, by repeat (first | exact zL.refl _ | apply zL.step)⟩
  ·rw [if_neg c3] at H
   have JO : decide (a0 < 0) = false := decide_eq_false c3
   clear c3
   (first | rw [JO] | (simp only [i64_w, i32_w]; rw [JO]) | skip)
   have H' := ze.mk H
   clear H
   go_wp2
   go_meet
   case rel => exact ⟨_, (decide (a0 ≥ 2824)), (by first | rfl | (simp; done) | (simp [*]; done) | kernel_rfl), H', ⟨by first | omega | exact Nat.le_refl _⟩, by repeat (first | exact zL.refl _ | apply zL.step)⟩
 case rest =>
  clear HC2
  try clear p2
  try clear c3
  try clear JO
  obtain ⟨kq, Du, rfl, HA, HJ1, ⟨mc1, rfl⟩⟩ := hcut
  cases kq with
  | zero => exact absurd HA.o (by simp [escritoireref05_What.j0])
  | succ kj1 =>
   have H := HA.o
   clear HA
   simp only [escritoireref05_What.j0] at H
   by_cases c4 : Du = true
   ·subst c4
    have H1 : (some (0, 0)) = some (r1, r2) := by rw [if_pos rfl] at H; exact H
    clear H
    have H := H1
    clear H1
    simp only [Option.some.injEq, Prod.mk.injEq] at H
    obtain ⟨rfl, rfl⟩ := H
    go_wp2
    go_ret2
    exact ⟨by first | rfl | (simp; done) | (simp [*]; done), by repeat (first | exact zL.refl _ | apply zL.step)⟩
   ·replace c4 := Bool.eq_false_iff.mpr c4
    subst c4
    have H1 : (if a0 < 8 then (some (1, 0)) else (if a0 < 200 then (some (2, wrap64 (Int.tdiv (wrap64 (a0 - 8)) 8))) else (if a0 < 296 then (some (3, wrap64 (a0 - 200))) else (if a0 < 1288 then (some (4, wrap64 (Int.tdiv (wrap64 (a0 - 296)) 248))) else (some (5, wrap64 (Int.tdiv (wrap64 (a0 - 1288)) 16))))))) = some (r1, r2) := by rw [if_neg (show ¬ (false = true) by decide)] at H; exact H
    clear H
    have H := H1
    clear H1
    by_cases c5 : a0 < 8
    ·rw [if_pos c5] at H
     have Df : decide (a0 < 8) = true := decide_eq_true c5
     clear c5
     simp only [Option.some.injEq, Prod.mk.injEq] at H
     obtain ⟨rfl, rfl⟩ := H
     go_wp2
     go_ret2
     exact ⟨by first | rfl | (simp; done) | (simp [*]; done), by repeat (first | exact zL.refl _ | apply zL.step)⟩
    ·rw [if_neg c5] at H
     have Df : decide (a0 < 8) = false := decide_eq_false c5
     clear c5
     by_cases c6 : a0 < 200
     ·rw [if_pos c6] at H
      have c6b0 : decide (a0 < 200) = true := decide_eq_true c6
      clear c6
      simp only [Option.some.injEq, Prod.mk.injEq] at H
      obtain ⟨rfl, rfl⟩ := H
      go_wp2
      go_ret2
      exact ⟨by first | rfl | (simp; done) | (simp [*]; done), by repeat (first | exact zL.refl _ | apply zL.step)⟩
     ·rw [if_neg c6] at H
      have c6b0 : decide (a0 < 200) = false := decide_eq_false c6
      clear c6
      by_cases c7 : a0 < 296
      ·rw [if_pos c7] at H
       have c7b0 : decide (a0 < 296) = true := decide_eq_true c7
       clear c7
       simp only [Option.some.injEq, Prod.mk.injEq] at H
       obtain ⟨rfl, rfl⟩ := H
       go_wp2
       go_ret2
       exact ⟨by first | rfl | (simp; done) | (simp [*]; done), by repeat (first | exact zL.refl _ | apply zL.step)⟩
      ·rw [if_neg c7] at H
       have c7b0 : decide (a0 < 296) = false := decide_eq_false c7
       clear c7
       by_cases c8 : a0 < 1288
       ·rw [if_pos c8] at H
        have Bg : decide (a0 < 1288) = true := decide_eq_true c8
        clear c8
        simp only [Option.some.injEq, Prod.mk.injEq] at H
        obtain ⟨rfl, rfl⟩ := H
        go_wp2
        go_ret2
        exact ⟨by first | rfl | (simp; done) | (simp [*]; done), by repeat (first | exact zL.refl _ | apply zL.step)⟩
       ·rw [if_neg c8] at H
        have Bg : decide (a0 < 1288) = false := decide_eq_false c8
        clear c8
        simp only [Option.some.injEq, Prod.mk.injEq] at H
        obtain ⟨rfl, rfl⟩ := H
        go_wp2
        go_ret2
        exact ⟨by first | rfl | (simp; done) | (simp [*]; done), by repeat (first | exact zL.refl _ | apply zL.step)⟩

/-! ### escritoireref05_Open: function 49 -/
def escritoireref05_Open.f (k : Nat) (a0 : Int) : Option (Bool) := (escritoireref05_What.f k a0).bind fun JK => (if JK.1 = 2 then (some true) else (if JK.1 = 3 then (some true) else (some (JK.1 == 5))))
set_option maxHeartbeats 8000000 in
set_option maxRecDepth 100000 in
theorem escritoireref05_Open.calls (k : Nat) (a0 : Int) (r : Bool) (w : World) (h : escritoireref05_Open.f k a0 = some r) :
  Calls Tryz.prog 49 #[.int .i64 a0] w fun e w' => e = .returned (.bool r) ∧ zL w w' := by
 have H : ((escritoireref05_What.f k a0).bind fun JK => (if JK.1 = 2 then (some true) else (if JK.1 = 3 then (some true) else (some (JK.1 == 5))))) = some r := h
 clear h
 replace H := Option.bind_eq_some_iff.mp H
 obtain ⟨⟨t160, Dv⟩, A20, H⟩ := H
 replace H : (if t160 = 2 then (some true) else (if t160 = 3 then (some true) else (some (t160 == 5)))) = some r := H
 have A2 := ze.mk A20
 clear A20
 by_cases c3 : t160 = 2
 ·rw [if_pos c3] at H
  have JO : (t160 == 2) = true := beq_iff_eq.mpr c3
  have Bi : (t160 != 2) = false := bne_eq_false_iff_eq.mpr c3
  clear c3
  obtain rfl := Option.some.inj H
  go_enter Tryz.func49, Tryz.ntmps49
  go_wp2_with (first | ((with_reducible refine zN (f := 66) rfl ?_); refine yh (some 7) rfl rfl Tryz.func66 (by kernel_rfl) rfl #[.int .i64 a0] rfl (by (try simp only [List.map_toArray, List.map_cons, List.map_nil]); first | done | rfl | (simp only [List.length_drop, List.length_take]; rfl)) ?_; (with_reducible refine (escritoireref05_What.calls k a0 t160 Dv _ A2.o).mono ?_); rintro e w' ⟨rfl, ⟨nd, rfl⟩⟩; refine ⟨_, rfl, ?_⟩))
  go_ret
  exact ⟨by first | rfl | (simp; done) | (simp [*]; done), by repeat (first | exact zL.refl _ | apply zL.step)⟩
 ·rw [if_neg c3] at H
  have JO : (t160 == 2) = false := beq_eq_false_iff_ne.mpr c3
  have Bi : (t160 != 2) = true := bne_iff_ne.mpr c3
  by_cases c4 : t160 = 3
  ·rw [if_pos c4] at H
   have Bh : (t160 == 3) = true := beq_iff_eq.mpr c4
   have c4b1 : (t160 != 3) = false := bne_eq_false_iff_eq.mpr c4
   clear c4
   obtain rfl := Option.some.inj H
   go_enter Tryz.func49, Tryz.ntmps49
   go_wp2_with (first | ((with_reducible refine zN (f := 66) rfl ?_); refine yh (some 7) rfl rfl Tryz.func66 (by kernel_rfl) rfl #[.int .i64 a0] rfl (by (try simp only [List.map_toArray, List.map_cons, List.map_nil]); first | done | rfl | (simp only [List.length_drop, List.length_take]; rfl)) ?_; (with_reducible refine (escritoireref05_What.calls k a0 t160 Dv _ A2.o).mono ?_); rintro e w' ⟨rfl, ⟨nd, rfl⟩⟩; refine ⟨_, rfl, ?_⟩))
   go_ret
   exact ⟨by first | rfl | (simp; done) | (simp [*]; done), by repeat (first | exact zL.refl _ | apply zL.step)⟩
  ·rw [if_neg c4] at H
   have Bh : (t160 == 3) = false := beq_eq_false_iff_ne.mpr c4
   have c4b1 : (t160 != 3) = true := bne_iff_ne.mpr c4
   obtain rfl := Option.some.inj H
   go_enter Tryz.func49, Tryz.ntmps49
   go_wp2_with (first | ((with_reducible refine zN (f := 66) rfl ?_); refine yh (some 7) rfl rfl Tryz.func66 (by kernel_rfl) rfl #[.int .i64 a0] rfl (by (try simp only [List.map_toArray, List.map_cons, List.map_nil]); first | done | rfl | (simp only [List.length_drop, List.length_take]; rfl)) ?_; (with_reducible refine (escritoireref05_What.calls k a0 t160 Dv _ A2.o).mono ?_); rintro e w' ⟨rfl, ⟨nd, rfl⟩⟩; refine ⟨_, rfl, ?_⟩))
   go_ret
   exact ⟨by first | rfl | (simp; done) | (simp [*]; done), by repeat (first | exact zL.refl _ | apply zL.step)⟩

/-! ### plan_Card: function 50 -/
def plan_Card.f (k : Nat) (a0 : Int) : Option (Int × Int) := (plan_first.f k 2 a0).bind fun GL => (some (GL.1, GL.2))
set_option maxHeartbeats 8000000 in
set_option maxRecDepth 100000 in
theorem plan_Card.calls (k : Nat) (a0 : Int) (r1 : Int) (r2 : Int) (w : World) (h : plan_Card.f k a0 = some (r1, r2)) :
  Calls Tryz.prog 50 #[.int .i64 a0] w fun e w' => e = .returned (.tuple #[.int .i64 r1, .int .i64 r2]) ∧ Below w.heap.size w w' := by
 have HB := ze.mk (Below.refl w.heap.size w)
 have H : ((plan_first.f k 2 a0).bind fun GL => (some (GL.1, GL.2))) = some (r1, r2) := h
 clear h
 replace H := Option.bind_eq_some_iff.mp H
 obtain ⟨⟨t162, t163⟩, A20, H⟩ := H
 replace H : (some (t162, t163)) = some (r1, r2) := H
 have A2 := ze.mk A20
 clear A20
 simp only [Option.some.injEq, Prod.mk.injEq] at H
 obtain ⟨rfl, rfl⟩ := H
 go_enter Tryz.func50, Tryz.ntmps50
 go_wp2_with (first | ((with_reducible refine zN (f := 64) rfl ?_); refine yh (some 5) rfl rfl Tryz.func64 (by kernel_rfl) rfl #[.int .i64 2, .int .i64 a0] rfl (by (try simp only [List.map_toArray, List.map_cons, List.map_nil]); first | done | rfl | (simp only [List.length_drop, List.length_take]; rfl)) ?_; (with_reducible refine (plan_first.calls k 2 a0 t162 t163 _ A2.o).mono ?_); rintro e w3 ⟨rfl, hb⟩; refine ⟨_, rfl, ?_⟩; have n0_ := ze.mk (zu (by repeat (first | (with_reducible first | exact HB.o | apply zl | apply zf | apply zk) | exact HB.o)) hb); clear HB; have HB := n0_; clear n0_; (try clear hb); (try clear hb2); (try clear hk); (try clear hi)))
 go_ret2
 exact ⟨by first | rfl | (simp [zy, zx] <;> rfl) | (simp [*, zy, zx] <;> rfl), by repeat (first | (with_reducible first | exact HB.o | apply zl | apply zf | apply zk) | exact HB.o)⟩

/-! ### cards_fields: function 67 -/
def cards_fields.l0 : Nat → List (S105) → Int → Option ((List (S105)))
 | 0, _, _ => none
 | k + 1, x1, x7 => if x7 < 6 then (if x1.length < 5864062014805 then (cards_fields.l0 k (x1 ++ [(⟨wrap64 (2 + (wrap64 (Int.tdiv x7 4))), wrap64 (16 * (Int.tmod x7 4)), 16⟩ : S105)]) (wrap64 (x7 + 1))) else (none)) else (some x1)
def cards_fields.f (k : Nat)  : Option ((List (S105))) := cards_fields.l0 k (([(⟨0, 0, 8⟩ : S105), (⟨0, 8, 16⟩ : S105), (⟨0, 24, 32⟩ : S105)] : List (S105))) 0
theorem cards_fields.mono_l : ∀ k, (∀ y0 y1, LeO (cards_fields.l0 k y0 y1) (cards_fields.l0 (k + 1) y0 y1))
 | 0 => fun _ _ r h => by simp [cards_fields.l0] at h
 | k + 1 => by
  have ih0 := cards_fields.mono_l k
  ·intro y0 y1
   unfold cards_fields.l0
   repeat' first
   | (with_reducible exact ih0 _ _)
   | (with_reducible exact LeO.refl _)
   | (with_reducible exact LeO.none _)
   | (with_reducible refine LeO.ite ?_ ?_)
   | (with_reducible refine LeO.bind ?_ (fun _ => ?_))
   | exact ih0 _ _
   | exact LeO.none _
   | refine LeO.ite ?_ ?_
   | refine LeO.bind ?_ (fun _ => ?_)
theorem cards_fields.mono : ∀ k, LeO (cards_fields.f k ) (cards_fields.f (k + 1) ) := by
 intro  k
 have ih0 := cards_fields.mono_l k
 unfold cards_fields.f
 repeat' first
   | (with_reducible exact ih0 _ _)
   | (with_reducible exact LeO.refl _)
   | (with_reducible exact LeO.none _)
   | (with_reducible refine LeO.ite ?_ ?_)
   | (with_reducible refine LeO.bind ?_ (fun _ => ?_))
   | exact ih0 _ _
   | exact LeO.none _
   | refine LeO.ite ?_ ?_
   | refine LeO.bind ?_ (fun _ => ?_)
set_option maxHeartbeats 8000000 in
set_option maxRecDepth 100000 in
theorem cards_fields.calls (k : Nat)  (r : List (S105)) (w : World) (h : cards_fields.f k  = some r) :
  Calls Tryz.prog 67 #[] w fun e w' => ∃ v0_ : Value, e = .returned (v0_) ∧ Kd.R k105 105 w' w.heap.size (fun _ => True) v0_ r ∧ Below w.heap.size w w' := by
 have hu105 := Tryz.underlying105
 have HB := ze.mk (Below.refl w.heap.size w)
 have H : (cards_fields.l0 k (([(⟨0, 0, 8⟩ : S105), (⟨0, 8, 16⟩ : S105), (⟨0, 24, 32⟩ : S105)] : List (S105))) 0) = some r := h
 clear h
 obtain ⟨y164, JR⟩ : ∃ y_ : List (S105), y_ = (([(⟨0, 0, 8⟩ : S105), (⟨0, 8, 16⟩ : S105), (⟨0, 24, 32⟩ : S105)] : List (S105))) := ⟨_, rfl⟩
 replace H : (cards_fields.l0 k y164 0) = some r := by first | (rw [JR]; with_reducible exact H) | (have H2_ := (Option.bind_some _ _).symm.trans H; rw [JR]; with_reducible exact H2_) | (have H2_ := (Option.bind_some _ _).symm.trans H; with_reducible exact H2_) | with_reducible exact H | (rw [JR]; exact H) | exact H
 have Dr := ze.mk JR
 clear JR
 have H' := ze.mk H
 clear H
 go_enter Tryz.func67, Tryz.ntmps67
 go_wp2_with (first | ((with_reducible refine zD (N := 6) rfl ?_); refine Kd.R_lit k105 _ 105 ?hg (N := 6) ?hd (xs := ([(⟨0, 0, 8⟩ : S105), (⟨0, 8, 16⟩ : S105), (⟨0, 24, 32⟩ : S105)] : List (S105))) (inner := [.int .i64 0, .int .i64 0, .int .i64 8, .int .i64 0, .int .i64 8, .int .i64 16, .int .i64 0, .int .i64 24, .int .i64 32]) (ok := fun _ => True) (okp := fun _ => True) ?hr ?hp (fun _ hk => hk) trivial (Below.refl _ _) (Nat.le_refl _) (by simp) ?_; (case hd => rfl); (case hg => rfl); (case hr => first | (go_simp; done) | (go_simp; rfl)); (case hp => exact (Reps.c3 (show Kd.M k105 _ _ _ (⟨0, 0, 8⟩ : S105) [.int .i64 0, .int .i64 0, .int .i64 8] from (Xb _ _ _ (⟨0, 0, 8⟩ : S105) )) (Reps.c3 (show Kd.M k105 _ _ _ (⟨0, 8, 16⟩ : S105) [.int .i64 0, .int .i64 8, .int .i64 16] from (Xb _ _ _ (⟨0, 8, 16⟩ : S105) )) (Reps.c3 (show Kd.M k105 _ _ _ (⟨0, 24, 32⟩ : S105) [.int .i64 0, .int .i64 24, .int .i64 32] from (Xb _ _ _ (⟨0, 24, 32⟩ : S105) )) (Reps.none _ _))))); intro v165 w1 ho2 hb hg_ hnew_; clear hg_ hnew_; (first | rw [← Dr.o] at ho2 | (simp only [Int.reduceToNat] at ho2; rw [← Dr.o] at ho2)); have n0_ := ze.mk (Kd.yf ho2 (zt (by repeat (first | (with_reducible first | exact HB.o | apply zl | apply zf | apply zk) | exact HB.o)))); have n1_ := ze.mk (zu (by repeat (first | (with_reducible first | exact HB.o | apply zl | apply zf | apply zk) | exact HB.o)) hb); clear HB; have Bp := n0_; have HB := n1_; clear n0_ n1_; clear hb ho2))
 go_loopg [1, 7] k (fun kq v1 v7 w' => ∃ (Db : List (S105)) (Jr : Int), v7 = .int .i64 Jr ∧ ze (cards_fields.l0 kq Db Jr = some r) ∧ ze (kq ≤ k) ∧ ze (Kd.R k105 105 w' w.heap.size (fun _ => True) v1 Db) ∧ ze (Below w.heap.size w w'))
 case atStart => exact ⟨(y164), (0), (by first | rfl | (simp; done) | (simp [*]; done) | kernel_rfl), H', ⟨Nat.le_refl _⟩, ⟨by (with_reducible repeat (first | apply Kd.zz | apply Kd.zA | apply Kd.zF)); exact Bp.o⟩, ⟨by repeat (first | (with_reducible first | exact HB.o | apply zl | apply zf | apply zk) | exact HB.o)⟩⟩
 case round =>
  clear H'
  try clear p2
  obtain ⟨Db, Jr, rfl, HA, HK1, Bn, HB⟩ := hrel
  cases gk with
  | zero => exact absurd HA.o (by simp [cards_fields.l0])
  | succ k1 =>
   have H := HA.o
   clear HA
   simp only [cards_fields.l0] at H
   by_cases c3 : Jr < 6
   ·rw [if_pos c3] at H
    have JO : decide (Jr < 6) = true := decide_eq_true c3
    clear c3
    by_cases c4 : Db.length < 5864062014805
    ·rw [if_pos c4] at H
     have LMc4 := ze.mk c4
     clear c4
     obtain ⟨y167, hy167⟩ : ∃ y_ : List (S105), y_ = (Db ++ [(⟨wrap64 (2 + (wrap64 (Int.tdiv Jr 4))), wrap64 (16 * (Int.tmod Jr 4)), 16⟩ : S105)]) := ⟨_, rfl⟩
     replace H : (cards_fields.l0 k1 y167 (wrap64 (Jr + 1))) = some r := by first | (rw [hy167]; with_reducible exact H) | (have H2_ := (Option.bind_some _ _).symm.trans H; rw [hy167]; with_reducible exact H2_) | (have H2_ := (Option.bind_some _ _).symm.trans H; with_reducible exact H2_) | with_reducible exact H | (rw [hy167]; exact H) | exact H
     have Bl := ze.mk hy167
     clear hy167
     have H' := ze.mk H
     clear H
     go_wp2_with (first | ((with_reducible refine yo (b := .append) (xs := #[.tmp 10, .tmp 18]) rfl ?_); at_builtin; refine Kd.YI k105 (w0 := w) w.heap.size rfl (.tmp 10) (.tmp 18) 102 105 (.agg #[(.int .i64 0), (.int .i64 0), (.int .i64 0)]) 24 rfl Tryz.underlying102 info105 rfl (by decide) (by omega) u1 Db (⟨wrap64 (2 + (wrap64 (Int.tdiv Jr 4))), wrap64 (16 * (Int.tmod Jr 4)), 16⟩ : S105) [.int .i64 (wrap64 (2 + (wrap64 (Int.tdiv Jr 4)))), .int .i64 (wrap64 (16 * (Int.tmod Jr 4))), .int .i64 16] (fun _ => True) (fun _ => False) rfl rfl ?aP (fun _ hk => hk.elim) ?aF ?aO ?aB ?aS ?aL ?_; (case aP => exact Xb _ _ _ (⟨wrap64 (2 + (wrap64 (Int.tdiv Jr 4))), wrap64 (16 * (Int.tmod Jr 4)), 16⟩ : S105)); (case aB => exact (by repeat (first | (with_reducible first | exact HB.o | apply zl | apply zf | apply zk) | exact HB.o))); (case aF => exact (fun _ _ => trivial)); (case aO => exact (by (with_reducible repeat (first | apply Kd.zz | apply Kd.zA | apply Kd.zF)); exact Bn.o)); (case aS => exact (zt (by repeat (first | (with_reducible first | exact HB.o | apply zl | apply zf | apply zk) | exact HB.o)))); (case aL => have := LMc4.o; omega); intro v168 w5 ho hb hg hat; rw [← Bl.o] at ho; have n0_ := ze.mk (hb); have n1_ := ze.mk (ho); clear HB; clear Bn; have HB := n0_; have Bo := n1_; clear n0_ n1_; clear ho hb hg hat))
     go_roundg k1
     case measure => have := HK1.o; omega
     case rel => exact ⟨(y167), (wrap64 (Jr + 1)), (by first | rfl | (simp; done) | (simp [*]; done) | kernel_rfl), H', ⟨by have := HK1.o; omega⟩, ⟨by (with_reducible repeat (first | apply Kd.zz | apply Kd.zA | apply Kd.zF)); exact Bo.o⟩, ⟨by repeat (first | (with_reducible first | exact HB.o | apply zl | apply zf | apply zk) | exact HB.o)⟩⟩
    ·rw [if_neg c4] at H
     exact absurd H (by simp)
   ·rw [if_neg c3] at H
    have JO : decide (Jr < 6) = false := decide_eq_false c3
    clear c3
    obtain rfl := Option.some.inj H
    go_wp2
    go_ret
    exact ⟨_, by first | rfl | (simp [zy, zx] <;> rfl) | (simp [*, zy, zx] <;> rfl), by (with_reducible repeat (first | apply Kd.zz | apply Kd.zA | apply Kd.zF)); exact Bn.o, by repeat (first | (with_reducible first | exact HB.o | apply zl | apply zf | apply zk) | exact HB.o)⟩

end Go.Proofs.YtkbhilhefnahpaaGreat.Print
