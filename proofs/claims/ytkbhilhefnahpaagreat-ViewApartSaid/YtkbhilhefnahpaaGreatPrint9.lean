import Derived.Test.YtkbhilhefnahpaaGreatPrint0
namespace Go.Proofs.YtkbhilhefnahpaaGreat.Print
open Go.RowKit Go.Proofs.YtkbhilhefnahpaaGreatW.PrintWords Go.Proofs.YtkbhilhefnahpaaGreatW.PrintLast Go.Proofs.YtkbhilhefnahpaaGreatW.PrintMore
attribute [local go_sem] yS yR Zq Zp yH yG Zb Za   -- for this text's walks alone
set_option linter.unusedVariables false
set_option linter.unusedSimpArgs false

/-! ### escritoireref01_Same: function 30 -/
def escritoireref01_Same.l0 : Nat → List Int → List Int → Int → Option (Bool)
 | 0, _, _, _ => none
 | k + 1, x0, x1, x5 => if x5 < (x0.length : Int) then (if 0 ≤ x5 then (if x5 < (x1.length : Int) then (if (rd x0 x5) = (rd x1 x5) then (escritoireref01_Same.l0 k x0 x1 (wrap64 (x5 + 1))) else (some false)) else (none)) else (none)) else (some true)
def escritoireref01_Same.f (k : Nat) (l0 : List Int) (l1 : List Int) : Option (Bool) := if (l0.length : Int) = (l1.length : Int) then (escritoireref01_Same.l0 k l0 l1 0) else (some false)
set_option maxHeartbeats 8000000 in
set_option maxRecDepth 100000 in
theorem escritoireref01_Same.calls (k : Nat) (A0 : Option Addr) (c0 : Nat) (l0 : List Int) (A1 : Option Addr) (c1 : Nat) (l1 : List Int) (r : Bool) (w : World) (hr0 : Kd.C (Kd.int .u64) w A0 l0.length l0) (hc0 : l0.length ≤ c0) (hr1 : Kd.C (Kd.int .u64) w A1 l1.length l1) (hc1 : l1.length ≤ c1) (h : escritoireref01_Same.f k l0 l1 = some r) :
  Calls Tryz.prog 30 #[.slice A0 l0.length c0, .slice A1 l1.length c1] w fun e w' => e = .returned (.bool r) ∧ zL w w' := by
 have HR0 := ze.mk hr0
 have HC0 := ze.mk hc0
 clear hr0 hc0
 have HR1 := ze.mk hr1
 have HC1 := ze.mk hc1
 clear hr1 hc1
 have H : (if (l0.length : Int) = (l1.length : Int) then (escritoireref01_Same.l0 k l0 l1 0) else (some false)) = some r := h
 clear h
 by_cases c3 : (l0.length : Int) = (l1.length : Int)
 ·rw [if_pos c3] at H
  have c3b0 : ((l0.length : Int) == (l1.length : Int)) = true := beq_iff_eq.mpr c3
  have c3b1 : ((l0.length : Int) != (l1.length : Int)) = false := bne_eq_false_iff_eq.mpr c3
  have c3b2 : (l0.length == l1.length) = true := by first | simpa using c3 | (simp at c3 ⊢; omega)
  clear c3
  have H' := ze.mk H
  clear H
  go_enter Tryz.func30, Tryz.ntmps30
  go_wp2
  repeat (go_quiet (fail); try go_wp2)
  go_loopg [5] k (fun kq v5 w' => ∃ (Jc : Int), v5 = .int .i64 Jc ∧ ze (escritoireref01_Same.l0 kq l0 l1 Jc = some r) ∧ ze (kq ≤ k) ∧ zL w w')
  case atStart => exact ⟨(0), (by first | rfl | (simp; done) | (simp [*]; done) | kernel_rfl), H', ⟨Nat.le_refl _⟩, by repeat (first | exact zL.refl _ | apply zL.step)⟩
  case round =>
   clear H'
   try clear c1
   try clear p2
   try clear c3
   try clear c3b0
   try clear c3b1
   try clear c3b2
   obtain ⟨Jc, rfl, HA, HK1, ⟨m1, rfl⟩⟩ := hrel
   cases gk with
   | zero => exact absurd HA.o (by simp [escritoireref01_Same.l0])
   | succ k1 =>
    have H := HA.o
    clear HA
    simp only [escritoireref01_Same.l0] at H
    by_cases c4 : Jc < (l0.length : Int)
    ·rw [if_pos c4] at H
     have c4b0 : decide (Jc < (l0.length : Int)) = true := decide_eq_true c4
     clear c4
     by_cases c5 : 0 ≤ Jc
     ·rw [if_pos c5] at H
      have c5b0 : decide (0 ≤ Jc) = true := decide_eq_true c5
      clear c5
      by_cases c6 : Jc < (l1.length : Int)
      ·rw [if_pos c6] at H
       have c6b0 : decide (Jc < (l1.length : Int)) = true := decide_eq_true c6
       clear c6
       by_cases c7 : (rd l0 Jc) = (rd l1 Jc)
       ·rw [if_pos c7] at H
        have c7b0 : ((rd l0 Jc) == (rd l1 Jc)) = true := beq_iff_eq.mpr c7
        have c7b1 : ((rd l0 Jc) != (rd l1 Jc)) = false := bne_eq_false_iff_eq.mpr c7
        clear c7
        have H' := ze.mk H
        clear H
        have Jg : 0 ≤ (Jc : Int) := of_decide_eq_true (by first | (with_reducible assumption) | assumption)
        have Je : Jc < (l0.length : Int) := of_decide_eq_true (by first | (with_reducible assumption) | assumption)
        obtain ⟨Jl, e220, Ji⟩ := Kd.zX HR0.o Jc Jg Je
        cases e220
        replace Jg := eq_true Jg
        replace Je := eq_true Je
        have Jf : 0 ≤ (Jc : Int) := of_decide_eq_true (by first | (with_reducible assumption) | assumption)
        have Jd : Jc < (l1.length : Int) := of_decide_eq_true (by first | (with_reducible assumption) | assumption)
        obtain ⟨Jk, e221, Jh⟩ := Kd.zX HR1.o Jc Jf Jd
        cases e221
        replace Jf := eq_true Jf
        replace Jd := eq_true Jd
        go_wp2
        repeat (go_quiet (fail); try go_wp2)
        go_roundg k1
        case measure => have := HK1.o; omega
        case rel => exact ⟨(wrap64 (Jc + 1)), (by first | rfl | (simp; done) | (simp [*]; done) | kernel_rfl), H', ⟨by have := HK1.o; omega⟩, by repeat (first | exact zL.refl _ | apply zL.step)⟩
       ·rw [if_neg c7] at H
        have c7b0 : ((rd l0 Jc) == (rd l1 Jc)) = false := beq_eq_false_iff_ne.mpr c7
        have c7b1 : ((rd l0 Jc) != (rd l1 Jc)) = true := bne_iff_ne.mpr c7
        obtain rfl := Option.some.inj H
        have Jg : 0 ≤ (Jc : Int) := of_decide_eq_true (by first | (with_reducible assumption) | assumption)
        have Je : Jc < (l0.length : Int) := of_decide_eq_true (by first | (with_reducible assumption) | assumption)
        obtain ⟨Jl, e220, Ji⟩ := Kd.zX HR0.o Jc Jg Je
        cases e220
        replace Jg := eq_true Jg
        replace Je := eq_true Je
        have Jf : 0 ≤ (Jc : Int) := of_decide_eq_true (by first | (with_reducible assumption) | assumption)
        have Jd : Jc < (l1.length : Int) := of_decide_eq_true (by first | (with_reducible assumption) | assumption)
        obtain ⟨Jk, e221, Jh⟩ := Kd.zX HR1.o Jc Jf Jd
        cases e221
        replace Jf := eq_true Jf
        replace Jd := eq_true Jd
        go_wp2
        repeat (go_quiet (fail); try go_wp2)
        go_ret
        exact ⟨by first | rfl | (simp; done) | (simp [*]; done), by repeat (first | exact zL.refl _ | apply zL.step)⟩
      ·rw [if_neg c6] at H
       exact absurd H (by simp)
     ·rw [if_neg c5] at H
      exact absurd H (by simp)
    ·rw [if_neg c4] at H
     have c4b0 : decide (Jc < (l0.length : Int)) = false := decide_eq_false c4
     clear c4
     obtain rfl := Option.some.inj H
     go_wp2
     repeat (go_quiet (fail); try go_wp2)
     go_ret
     exact ⟨by first | rfl | (simp; done) | (simp [*]; done), by repeat (first | exact zL.refl _ | apply zL.step)⟩
 ·rw [if_neg c3] at H
  have c3b0 : ((l0.length : Int) == (l1.length : Int)) = false := beq_eq_false_iff_ne.mpr c3
  have c3b1 : ((l0.length : Int) != (l1.length : Int)) = true := bne_iff_ne.mpr c3
  have c3b2 : (l0.length == l1.length) = false := by first | simpa using c3 | (simp at c3 ⊢; omega)
  obtain rfl := Option.some.inj H
  go_enter Tryz.func30, Tryz.ntmps30
  go_wp2
  repeat (go_quiet (fail); try go_wp2)
  go_ret
  exact ⟨by first | rfl | (simp; done) | (simp [*]; done), by repeat (first | exact zL.refl _ | apply zL.step)⟩

/-! ### escritoireref06_None: function 70 -/
def escritoireref06_None.f (a0 : Int) : Option (Int × Int × Int × Int × Int × Int × Int × Int × Int × Int) := some (0, 0, 0, a0, (-1), (-1), (-1), (-1), (-1), (-1))
set_option maxHeartbeats 8000000 in
set_option maxRecDepth 100000 in
theorem escritoireref06_None.calls (a0 : Int) (r1 : Int) (r2 : Int) (r3 : Int) (r4 : Int) (r5 : Int) (r6 : Int) (r7 : Int) (r8 : Int) (r9 : Int) (r10 : Int) (w : World) (h : escritoireref06_None.f a0 = some (r1, r2, r3, r4, r5, r6, r7, r8, r9, r10)) :
  Calls Tryz.prog 70 #[.int .u64 a0] w fun e w' => e = .returned (.agg #[.int .i64 r1, .int .i64 r2, .int .i64 r3, .int .u64 r4, .int .i64 r5, .int .i64 r6, .int .i64 r7, .int .i64 r8, .int .i64 r9, .int .i64 r10]) ∧ Below w.heap.size w w' := by
 have hu37 := Tryz.underlying37
 have hu35 := Tryz.underlying35
 have HB := ze.mk (Below.refl w.heap.size w)
 have H : (some (0, 0, 0, a0, (-1), (-1), (-1), (-1), (-1), (-1))) = some (r1, r2, r3, r4, r5, r6, r7, r8, r9, r10) := h
 clear h
 simp only [Option.some.injEq, Prod.mk.injEq] at H
 obtain ⟨rfl, rfl, rfl, rfl, rfl, rfl, rfl, rfl, rfl, rfl⟩ := H
 go_enter Tryz.func70, Tryz.ntmps70
 go_wp2_with (first | ((with_reducible refine zD (N := 2) rfl ?_); refine zC ?hg (N := 2) ?hd (cs := #[.int .i64 0, .int .i64 0, .int .i64 0, .int .u64 0, .int .i64 0, .int .i64 0, .int .i64 0, .int .i64 0, .int .i64 0, .int .i64 0]) (t := 37) ?hr ?_; (case hd => rfl); (case hg => rfl); (case hr => first | (go_simp; done) | (go_simp; rfl)); intro Jb hg w2 hbox hb; have n0_ := ze.mk (zu (by repeat (first | (with_reducible first | exact HB.o | apply zl | apply zf | apply zk) | exact HB.o)) hb); have n1_ := ze.mk (hbox); have n2_ := ze.mk ((by rw [hg]; exact (zt (by repeat (first | (with_reducible first | exact HB.o | apply zl | apply zf | apply zk) | exact HB.o))) : w.heap.size ≤ Jb)); have n3_ := ze.mk ((by rw [hg]; exact (zt (by repeat (first | (with_reducible first | exact HB.o | apply zl | apply zf | apply zk) | exact HB.o))) : w.heap.size ≤ Jb)); clear HB; have HB := n0_; have Ja := n1_; have GW222 := n2_; have Jj := n3_; clear n0_ n1_ n2_ n3_; clear hb hbox hg; have hcz3_0 : w2.cell? ⟨Jb, 0, none⟩ = some (.int .i64 0) := (zb Ja.o 0).trans rfl; have hcz3_1 : w2.cell? ⟨Jb, 1, none⟩ = some (.int .i64 0) := (zb Ja.o 1).trans rfl; have hcz3_2 : w2.cell? ⟨Jb, 2, none⟩ = some (.int .i64 0) := (zb Ja.o 2).trans rfl; have hcz3_3 : w2.cell? ⟨Jb, 3, none⟩ = some (.int .u64 0) := (zb Ja.o 3).trans rfl; have hcz3_4 : w2.cell? ⟨Jb, 4, none⟩ = some (.int .i64 0) := (zb Ja.o 4).trans rfl; have hcz3_5 : w2.cell? ⟨Jb, 5, none⟩ = some (.int .i64 0) := (zb Ja.o 5).trans rfl; have hcz3_6 : w2.cell? ⟨Jb, 6, none⟩ = some (.int .i64 0) := (zb Ja.o 6).trans rfl; have hcz3_7 : w2.cell? ⟨Jb, 7, none⟩ = some (.int .i64 0) := (zb Ja.o 7).trans rfl; have hcz3_8 : w2.cell? ⟨Jb, 8, none⟩ = some (.int .i64 0) := (zb Ja.o 8).trans rfl; have hcz3_9 : w2.cell? ⟨Jb, 9, none⟩ = some (.int .i64 0) := (zb Ja.o 9).trans rfl; have hfz3_0 := za Ja.o 0; have hfz3_1 := za Ja.o 1; have hfz3_2 := za Ja.o 2; have hfz3_3 := za Ja.o 3; have hfz3_4 := za Ja.o 4; have hfz3_5 := za Ja.o 5; have hfz3_6 := za Ja.o 6; have hfz3_7 := za Ja.o 7; have hfz3_8 := za Ja.o 8; have hfz3_9 := za Ja.o 9) | ((with_reducible refine zJ (t := 37) (p := 2) rfl ?_); refine zH (t := 37) (p := 2) (v := ?vo_w4) (w1 := ((((((((((w2.setCell ⟨Jb, 0, none⟩ (.int .i64 0)).setCell ⟨Jb, 1, none⟩ (.int .i64 0)).setCell ⟨Jb, 2, none⟩ (.int .i64 0)).setCell ⟨Jb, 3, none⟩ (.int .u64 a0)).setCell ⟨Jb, 4, none⟩ (.int .i64 (-1))).setCell ⟨Jb, 5, none⟩ (.int .i64 (-1))).setCell ⟨Jb, 6, none⟩ (.int .i64 (-1))).setCell ⟨Jb, 7, none⟩ (.int .i64 (-1))).setCell ⟨Jb, 8, none⟩ (.int .i64 (-1))).setCell ⟨Jb, 9, none⟩ (.int .i64 (-1)))) ?hg ?ho ?hn ?hr ?_; (case ho => rfl); (case hg => rfl); (case hn => rfl); (case hr => exact zM rfl rfl rfl (zP (P := Tryz.prog) (o := 0) (cur := #[.int .i64 0, .int .i64 0, .int .i64 0, .int .u64 0, .int .i64 0, .int .i64 0, .int .i64 0, .int .i64 0, .int .i64 0, .int .i64 0]) 37 (.agg #[.int .i64 0, .int .i64 0, .int .i64 0, .int .u64 a0, .int .i64 (-1), .int .i64 (-1), .int .i64 (-1), .int .i64 (-1), .int .i64 (-1), .int .i64 (-1)]) [.int .i64 0, .int .i64 0, .int .i64 0, .int .u64 a0, .int .i64 (-1), .int .i64 (-1), .int .i64 (-1), .int .i64 (-1), .int .i64 (-1), .int .i64 (-1)] (show _ = some (Obj.cells #[.int .i64 0, .int .i64 0, .int .i64 0, .int .u64 0, .int .i64 0, .int .i64 0, .int .i64 0, .int .i64 0, .int .i64 0, .int .i64 0] 37 (0, 0)) from (by (with_reducible repeat (first | refine zg ?_ _ | refine zi ?_ | refine zh ?_ _)); exact Ja.o)) rfl (by kernel_rfl) (show 10 ≤ 10 by decide) (by intro q_ hq_; simp only [List.mem_cons, List.not_mem_nil, or_false] at hq_; rcases hq_ with rfl | rfl | rfl | rfl | rfl | rfl | rfl | rfl | rfl | rfl <;> rfl))); intro w4 hw; have n0_ : ze (w4.heap[Jb]? = some (.cells #[.int .i64 0, .int .i64 0, .int .i64 0, .int .u64 a0, .int .i64 (-1), .int .i64 (-1), .int .i64 (-1), .int .i64 (-1), .int .i64 (-1), .int .i64 (-1)] 37 (0, 0))) := ⟨(by rw [hw]; exact (by (with_reducible repeat (first | refine zg ?_ _ | refine zi ?_ | refine zh ?_ _)); refine zq (cs := #[.int .i64 0, .int .i64 0, .int .i64 0, .int .u64 a0, .int .i64 (-1), .int .i64 (-1), .int .i64 (-1), .int .i64 (-1), .int .i64 (-1), .int .i64 0]) ?_ 9 _ rfl; (with_reducible repeat (first | refine zg ?_ _ | refine zi ?_ | refine zh ?_ _)); refine zq (cs := #[.int .i64 0, .int .i64 0, .int .i64 0, .int .u64 a0, .int .i64 (-1), .int .i64 (-1), .int .i64 (-1), .int .i64 (-1), .int .i64 0, .int .i64 0]) ?_ 8 _ rfl; (with_reducible repeat (first | refine zg ?_ _ | refine zi ?_ | refine zh ?_ _)); refine zq (cs := #[.int .i64 0, .int .i64 0, .int .i64 0, .int .u64 a0, .int .i64 (-1), .int .i64 (-1), .int .i64 (-1), .int .i64 0, .int .i64 0, .int .i64 0]) ?_ 7 _ rfl; (with_reducible repeat (first | refine zg ?_ _ | refine zi ?_ | refine zh ?_ _)); refine zq (cs := #[.int .i64 0, .int .i64 0, .int .i64 0, .int .u64 a0, .int .i64 (-1), .int .i64 (-1), .int .i64 0, .int .i64 0, .int .i64 0, .int .i64 0]) ?_ 6 _ rfl; (with_reducible repeat (first | refine zg ?_ _ | refine zi ?_ | refine zh ?_ _)); refine zq (cs := #[.int .i64 0, .int .i64 0, .int .i64 0, .int .u64 a0, .int .i64 (-1), .int .i64 0, .int .i64 0, .int .i64 0, .int .i64 0, .int .i64 0]) ?_ 5 _ rfl; (with_reducible repeat (first | refine zg ?_ _ | refine zi ?_ | refine zh ?_ _)); refine zq (cs := #[.int .i64 0, .int .i64 0, .int .i64 0, .int .u64 a0, .int .i64 0, .int .i64 0, .int .i64 0, .int .i64 0, .int .i64 0, .int .i64 0]) ?_ 4 _ rfl; (with_reducible repeat (first | refine zg ?_ _ | refine zi ?_ | refine zh ?_ _)); refine zq (cs := #[.int .i64 0, .int .i64 0, .int .i64 0, .int .u64 0, .int .i64 0, .int .i64 0, .int .i64 0, .int .i64 0, .int .i64 0, .int .i64 0]) ?_ 3 _ rfl; (with_reducible repeat (first | refine zg ?_ _ | refine zi ?_ | refine zh ?_ _)); refine zq (cs := #[.int .i64 0, .int .i64 0, .int .i64 0, .int .u64 0, .int .i64 0, .int .i64 0, .int .i64 0, .int .i64 0, .int .i64 0, .int .i64 0]) ?_ 2 _ rfl; (with_reducible repeat (first | refine zg ?_ _ | refine zi ?_ | refine zh ?_ _)); refine zq (cs := #[.int .i64 0, .int .i64 0, .int .i64 0, .int .u64 0, .int .i64 0, .int .i64 0, .int .i64 0, .int .i64 0, .int .i64 0, .int .i64 0]) ?_ 1 _ rfl; (with_reducible repeat (first | refine zg ?_ _ | refine zi ?_ | refine zh ?_ _)); refine zq (cs := #[.int .i64 0, .int .i64 0, .int .i64 0, .int .u64 0, .int .i64 0, .int .i64 0, .int .i64 0, .int .i64 0, .int .i64 0, .int .i64 0]) ?_ 0 _ rfl; (with_reducible repeat (first | refine zg ?_ _ | refine zi ?_ | refine zh ?_ _)); exact Ja.o))⟩; have n1_ : ze (Below w.heap.size w w4) := ⟨(by rw [hw]; exact (by repeat (first | (with_reducible first | exact HB.o | apply zl | apply zf | apply zk | refine zm ?_ Jj.o) | exact HB.o)))⟩; clear hw; clear Ja; clear HB; have Ja := n0_; have HB := n1_; clear n0_ n1_))
 refine bodyPost_ret (results_cell_row rfl _ _ Jb 37 #[.int .i64 0, .int .i64 0, .int .i64 0, .int .u64 a0, .int .i64 (-1), .int .i64 (-1), .int .i64 (-1), .int .i64 (-1), .int .i64 (-1), .int .i64 (-1)] (0, 0) _ rfl (by (with_reducible repeat (first | refine zg ?_ _ | refine zi ?_ | refine zh ?_ _)); exact Ja.o) Tryz.underlying37 rfl (by kernel_rfl)) rfl ?_
 exact ⟨by first | rfl | (simp [zy, zx] <;> rfl) | (simp [*, zy, zx] <;> rfl), by repeat (first | (with_reducible first | exact HB.o | apply zl | apply zf | apply zk | refine zm ?_ Jj.o) | exact HB.o)⟩

/-! ### escritoireref06_block: function 92 -/
def escritoireref06_block.f (a0 : Int) : Option (Bool) := if a0 ≥ (-1) then (some (decide (a0 < 96))) else (some false)
set_option maxHeartbeats 8000000 in
set_option maxRecDepth 100000 in
theorem escritoireref06_block.calls (a0 : Int) (r : Bool) (w : World) (h : escritoireref06_block.f a0 = some r) :
  Calls Tryz.prog 92 #[.int .i64 a0] w fun e w' => e = .returned (.bool r) ∧ zL w w' := by
 have H : (if a0 ≥ (-1) then (some (decide (a0 < 96))) else (some false)) = some r := h
 clear h
 by_cases c2 : a0 ≥ (-1)
 ·rw [if_pos c2] at H
  have c2b0 : decide ((-1) ≤ a0) = true := decide_eq_true c2
  clear c2
  obtain rfl := Option.some.inj H
  go_enter Tryz.func92, Tryz.ntmps92
  go_wp2
  go_ret
  exact ⟨by first | rfl | (simp; done) | (simp [*]; done), by repeat (first | exact zL.refl _ | apply zL.step)⟩
 ·rw [if_neg c2] at H
  have c2b0 : decide ((-1) ≤ a0) = false := decide_eq_false c2
  clear c2
  obtain rfl := Option.some.inj H
  go_enter Tryz.func92, Tryz.ntmps92
  go_wp2
  go_ret
  exact ⟨by first | rfl | (simp; done) | (simp [*]; done), by repeat (first | exact zL.refl _ | apply zL.step)⟩

end Go.Proofs.YtkbhilhefnahpaaGreat.Print
