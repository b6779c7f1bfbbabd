import Derived.Test.YtkbhilhefnahpaaGreatPrint0
import Derived.Test.YtkbhilhefnahpaaGreatPrint5
import Derived.Test.YtkbhilhefnahpaaGreatPrint9
import Derived.Test.YtkbhilhefnahpaaGreatPrint11
namespace Go.Proofs.YtkbhilhefnahpaaGreat.Print
open Go.RowKit Go.Proofs.YtkbhilhefnahpaaGreatW.PrintWords Go.Proofs.YtkbhilhefnahpaaGreatW.PrintLast Go.Proofs.YtkbhilhefnahpaaGreatW.PrintMore
attribute [local go_sem] yS yR Zq Zp yH yG Zb Za   -- for this text's walks alone
set_option linter.unusedVariables false
set_option linter.unusedSimpArgs false

/-! ### escritoireref06_Read: function 53 -/
def escritoireref06_Read.l0 : Nat → List Int → Int → Int → Int → Int → Int → Int → Int → Int → Int → Int → Int → Int → Option (Int × Int × Int × Int × Int × Int × Int × Int × Int × Int × Int)
 | 0, _, _, _, _, _, _, _, _, _, _, _, _, _ => none
 | k + 1, x0, x5, x6, JC, JB, JA, Jz, JH, JG, JF, JE, JL, JK => if x6 < 4 then (if x6 = 0 then (escritoireref06_Read.l0 k x0 (IntKind.u64.wrap (Int.tdiv x5 65536)) (wrap64 (x6 + 1)) JC JB JA Jz (wrap64 ((wrap64 (Int.tmod x5 65536)) - 1)) JG JF JE JL JK) else (if x6 = 1 then (escritoireref06_Read.l0 k x0 (IntKind.u64.wrap (Int.tdiv x5 65536)) (wrap64 (x6 + 1)) JC JB JA Jz JH (wrap64 ((wrap64 (Int.tmod x5 65536)) - 1)) JF JE JL JK) else (if x6 = 2 then (escritoireref06_Read.l0 k x0 (IntKind.u64.wrap (Int.tdiv x5 65536)) (wrap64 (x6 + 1)) JC JB JA Jz JH JG (wrap64 ((wrap64 (Int.tmod x5 65536)) - 1)) JE JL JK) else (if x6 = 3 then (escritoireref06_Read.l0 k x0 (IntKind.u64.wrap (Int.tdiv x5 65536)) (wrap64 (x6 + 1)) JC JB JA Jz JH JG JF (wrap64 ((wrap64 (Int.tmod x5 65536)) - 1)) JL JK) else (if x6 = 4 then (escritoireref06_Read.l0 k x0 (IntKind.u64.wrap (Int.tdiv x5 65536)) (wrap64 (x6 + 1)) JC JB JA Jz JH JG JF JE (wrap64 ((wrap64 (Int.tmod x5 65536)) - 1)) JK) else (none)))))) else (if 3 < (x0.length : Int) then ((escritoireref06_Write.f k JC JB JA Jz JH JG JF JE (wrap64 ((wrap64 (Int.tmod (rd x0 3) 65536)) - 1)) (wrap64 ((wrap64 (Int.tmod (IntKind.u64.wrap (Int.tdiv (rd x0 3) 65536)) 65536)) - 1))).bind fun Dr => (if Dr.2 = 0 then ((escritoireref01_Same.f k Dr.1 x0).bind fun Dm => (if Dm = true then (some (JC, JB, JA, Jz, JH, JG, JF, JE, wrap64 ((wrap64 (Int.tmod (rd x0 3) 65536)) - 1), wrap64 ((wrap64 (Int.tmod (IntKind.u64.wrap (Int.tdiv (rd x0 3) 65536)) 65536)) - 1), 0)) else (some (0, 0, 0, 0, 0, 0, 0, 0, 0, 0, 15)))) else (some (0, 0, 0, 0, 0, 0, 0, 0, 0, 0, 15)))) else (none))
def escritoireref06_Read.f (k : Nat) (l0 : List Int) : Option (Int × Int × Int × Int × Int × Int × Int × Int × Int × Int × Int) := if (l0.length : Int) = 8 then (if 1 < (l0.length : Int) then ((escritoireref06_None.f (rd l0 1)).bind fun JD => (if 0 < (l0.length : Int) then (if 2 < (l0.length : Int) then (escritoireref06_Read.l0 k l0 (rd l0 2) 0 (wrap64 (Int.tmod (rd l0 0) 256)) (wrap64 (Int.tmod (IntKind.u64.wrap (Int.tdiv (rd l0 0) 256)) 65536)) (wrap64 (Int.tmod (IntKind.u64.wrap (Int.tdiv (rd l0 0) 16777216)) 4294967296)) JD.2.2.2.1 JD.2.2.2.2.1 JD.2.2.2.2.2.1 JD.2.2.2.2.2.2.1 JD.2.2.2.2.2.2.2.1 JD.2.2.2.2.2.2.2.2.1 JD.2.2.2.2.2.2.2.2.2) else (none)) else (none))) else (none)) else (some (0, 0, 0, 0, 0, 0, 0, 0, 0, 0, 15))
set_option maxHeartbeats 8000000 in
set_option maxRecDepth 100000 in
theorem escritoireref06_Read.calls (k : Nat) (A0 : Option Addr) (c0 : Nat) (l0 : List Int) (r1 : Int) (r2 : Int) (r3 : Int) (r4 : Int) (r5 : Int) (r6 : Int) (r7 : Int) (r8 : Int) (r9 : Int) (r10 : Int) (r11 : Int) (w : World) (hr0 : Kd.C (Kd.int .u64) w A0 l0.length l0) (hc0 : l0.length ≤ c0) (h : escritoireref06_Read.f k l0 = some (r1, r2, r3, r4, r5, r6, r7, r8, r9, r10, r11)) :
  Calls Tryz.prog 53 #[.slice A0 l0.length c0] w fun e w' => e = .returned (.tuple #[.agg #[.int .i64 r1, .int .i64 r2, .int .i64 r3, .int .u64 r4, .int .i64 r5, .int .i64 r6, .int .i64 r7, .int .i64 r8, .int .i64 r9, .int .i64 r10], .int .i64 r11]) ∧ Below w.heap.size w w' := by
 have hu37 := Tryz.underlying37
 have HR0 := ze.mk hr0
 have HC0 := ze.mk hc0
 clear hr0 hc0
 have HB := ze.mk (Below.refl w.heap.size w)
 have H : (if (l0.length : Int) = 8 then (if 1 < (l0.length : Int) then ((escritoireref06_None.f (rd l0 1)).bind fun JD => (if 0 < (l0.length : Int) then (if 2 < (l0.length : Int) then (escritoireref06_Read.l0 k l0 (rd l0 2) 0 (wrap64 (Int.tmod (rd l0 0) 256)) (wrap64 (Int.tmod (IntKind.u64.wrap (Int.tdiv (rd l0 0) 256)) 65536)) (wrap64 (Int.tmod (IntKind.u64.wrap (Int.tdiv (rd l0 0) 16777216)) 4294967296)) JD.2.2.2.1 JD.2.2.2.2.1 JD.2.2.2.2.2.1 JD.2.2.2.2.2.2.1 JD.2.2.2.2.2.2.2.1 JD.2.2.2.2.2.2.2.2.1 JD.2.2.2.2.2.2.2.2.2) else (none)) else (none))) else (none)) else (some (0, 0, 0, 0, 0, 0, 0, 0, 0, 0, 15))) = some (r1, r2, r3, r4, r5, r6, r7, r8, r9, r10, r11) := h
 clear h
 by_cases c2 : (l0.length : Int) = 8
 ·rw [if_pos c2] at H
  have c2b0 : ((l0.length : Int) == 8) = true := beq_iff_eq.mpr c2
  have c2b1 : ((l0.length : Int) != 8) = false := bne_eq_false_iff_eq.mpr c2
  clear c2
  by_cases c3 : 1 < (l0.length : Int)
  ·rw [if_pos c3] at H
   have Jde : decide (1 < (l0.length : Int)) = true := decide_eq_true c3
   have c3b1 : decide (1 < l0.length) = true := decide_eq_true (by omega)
   clear c3
   replace H := Option.bind_eq_some_iff.mp H
   obtain ⟨⟨JX, JW, JV, Jn, JU, JZ, J2, J3, J4, Jy⟩, A40, H⟩ := H
   replace H : (if 0 < (l0.length : Int) then (if 2 < (l0.length : Int) then (escritoireref06_Read.l0 k l0 (rd l0 2) 0 (wrap64 (Int.tmod (rd l0 0) 256)) (wrap64 (Int.tmod (IntKind.u64.wrap (Int.tdiv (rd l0 0) 256)) 65536)) (wrap64 (Int.tmod (IntKind.u64.wrap (Int.tdiv (rd l0 0) 16777216)) 4294967296)) Jn JU JZ J2 J3 J4 Jy) else (none)) else (none)) = some (r1, r2, r3, r4, r5, r6, r7, r8, r9, r10, r11) := H
   have A4 := ze.mk A40
   clear A40
   by_cases c5 : 0 < (l0.length : Int)
   ·rw [if_pos c5] at H
    have Jdd : decide (0 < (l0.length : Int)) = true := decide_eq_true c5
    have Jdc : decide (0 < l0.length) = true := decide_eq_true (by omega)
    clear c5
    by_cases c6 : 2 < (l0.length : Int)
    ·rw [if_pos c6] at H
     have c6b0 : decide (2 < (l0.length : Int)) = true := decide_eq_true c6
     have c6b1 : decide (2 < l0.length) = true := decide_eq_true (by omega)
     clear c6
     have H' := ze.mk H
     clear H
     go_enter Tryz.func53, Tryz.ntmps53
     go_wp2_with (first | ((with_reducible refine zD (N := 2) rfl ?_); refine zC ?hg (N := 2) ?hd (cs := #[.int .i64 0, .int .i64 0, .int .i64 0, .int .u64 0, .int .i64 0, .int .i64 0, .int .i64 0, .int .i64 0, .int .i64 0, .int .i64 0]) (t := 37) ?hr ?_; (case hd => rfl); (case hg => rfl); (case hr => first | (go_simp; done) | (go_simp; rfl)); intro Jg hg w7 hbox hb; have n0_ := ze.mk (zu (by repeat (first | (with_reducible first | exact HB.o | apply zl | apply zf | apply zk) | exact HB.o)) hb); have n1_ := ze.mk (hbox); have n2_ := ze.mk ((by rw [hg]; exact (zt (by repeat (first | (with_reducible first | exact HB.o | apply zl | apply zf | apply zk) | exact HB.o))) : w.heap.size ≤ Jg)); have n3_ := ze.mk ((by rw [hg]; exact (zt (by repeat (first | (with_reducible first | exact HB.o | apply zl | apply zf | apply zk) | exact HB.o))) : w.heap.size ≤ Jg)); clear HB; have HB := n0_; have Jh := n1_; have Jdm := n2_; have Jq := n3_; clear n0_ n1_ n2_ n3_; clear hb hbox hg; have DF : 0 ≤ (1 : Int) := (by omega); have Dx : 1 < (l0.length : Int) := of_decide_eq_true (by first | (with_reducible assumption) | assumption); obtain ⟨Jw, e255, JJ⟩ := Kd.zX HR0.o 1 DF Dx; cases e255; (try simp only [show (1 : Int).toNat = 1 from rfl, Nat.reduceMul, Nat.reduceEqDiff, Go.Addr.add, ↓reduceIte] at JJ); have qi255 : (1 < l0.length) = True := eq_true (by omega); (try rw [show ((1 : Int)).toNat = 1 from rfl] at JJ); replace JJ := (HB.o.cell (World.block_lt_of_cell? w _ JJ)).trans JJ; replace DF := eq_true DF; replace Dx := eq_true Dx) | ((with_reducible refine zN (f := 70) rfl ?_); refine yh (some 16) rfl rfl Tryz.func70 (by kernel_rfl) rfl #[.int .u64 (rd l0 1)] rfl (by (try simp only [List.map_toArray, List.map_cons, List.map_nil]); first | done | rfl | (simp only [List.length_drop, List.length_take]; rfl)) ?_; (with_reducible refine (escritoireref06_None.calls (rd l0 1) JX JW JV Jn JU JZ J2 J3 J4 Jy _ A4.o).mono ?_); rintro e w8 ⟨rfl, hb⟩; refine ⟨_, rfl, ?_⟩; have n0_ := ze.mk (zK (g := Jg) (o := .cells #[.int .i64 0, .int .i64 0, .int .i64 0, .int .u64 0, .int .i64 0, .int .i64 0, .int .i64 0, .int .i64 0, .int .i64 0, .int .i64 0] 37 (0, 0)) (by (with_reducible repeat (first | refine zg ?_ _ | refine zi ?_ | refine zh ?_ _)); exact Jh.o) hb); have n1_ := ze.mk (zu (by repeat (first | (with_reducible first | exact HB.o | apply zl | apply zf | apply zk | refine zm ?_ Jq.o) | exact HB.o)) hb); clear Jh; clear HB; have Jh := n0_; have HB := n1_; clear n0_ n1_; (try clear hb); (try clear hb2); (try clear hk); (try clear hi)) | ((with_reducible refine zD (N := 4) rfl ?_); refine zC ?hg (N := 4) ?hd (cs := #[.int .i64 0, .int .i64 0, .int .i64 0, .int .u64 0, .int .i64 0, .int .i64 0, .int .i64 0, .int .i64 0, .int .i64 0, .int .i64 0]) (t := 37) ?hr ?_; (case hd => rfl); (case hg => rfl); (case hr => first | (go_simp; done) | (go_simp; rfl)); intro Jf hg w9 hbox hb; have n0_ := ze.mk (zK (g := Jg) (o := .cells #[.int .i64 0, .int .i64 0, .int .i64 0, .int .u64 0, .int .i64 0, .int .i64 0, .int .i64 0, .int .i64 0, .int .i64 0, .int .i64 0] 37 (0, 0)) (by (with_reducible repeat (first | refine zg ?_ _ | refine zi ?_ | refine zh ?_ _)); exact Jh.o) hb); have n1_ := ze.mk (zu (by repeat (first | (with_reducible first | exact HB.o | apply zl | apply zf | apply zk | refine zm ?_ Jq.o) | exact HB.o)) hb); have n2_ := ze.mk (hbox); have n3_ := ze.mk ((by rw [hg]; exact (zt (by repeat (first | (with_reducible first | exact HB.o | apply zl | apply zf | apply zk | refine zm ?_ Jq.o) | exact HB.o))) : w.heap.size ≤ Jf)); have n4_ := ze.mk ((by rw [hg]; exact (zt (by repeat (first | (with_reducible first | exact HB.o | apply zl | apply zf | apply zk | refine zm ?_ Jq.o) | exact HB.o))) : w.heap.size ≤ Jf)); have n5_ := ze.mk ((by rw [hg]; exact Nat.ne_of_lt (yL (g := Jg) (o := .cells #[.int .i64 0, .int .i64 0, .int .i64 0, .int .u64 0, .int .i64 0, .int .i64 0, .int .i64 0, .int .i64 0, .int .i64 0, .int .i64 0] 37 (0, 0)) (by (with_reducible repeat (first | refine zg ?_ _ | refine zi ?_ | refine zh ?_ _)); exact Jh.o)) : Jg ≠ Jf)); have n6_ := ze.mk ((by rw [hg]; exact Nat.ne_of_gt (yL (g := Jg) (o := .cells #[.int .i64 0, .int .i64 0, .int .i64 0, .int .u64 0, .int .i64 0, .int .i64 0, .int .i64 0, .int .i64 0, .int .i64 0, .int .i64 0] 37 (0, 0)) (by (with_reducible repeat (first | refine zg ?_ _ | refine zi ?_ | refine zh ?_ _)); exact Jh.o)) : Jf ≠ Jg)); clear Jh; clear HB; have Jh := n0_; have HB := n1_; have Ja := n2_; have JS := n3_; have Jt := n4_; have Jj := n5_; have Ji := n6_; clear n0_ n1_ n2_ n3_ n4_ n5_ n6_; clear hb hbox hg; have hnb10 := Ji.o; have hnc10 := Jj.o; have Dl : w9.cell? ⟨Jf, 0, none⟩ = some (.int .i64 0) := (zb Ja.o 0).trans rfl; have Dk : w9.cell? ⟨Jf, 1, none⟩ = some (.int .i64 0) := (zb Ja.o 1).trans rfl; have Dj : w9.cell? ⟨Jf, 2, none⟩ = some (.int .i64 0) := (zb Ja.o 2).trans rfl; have Di : w9.cell? ⟨Jf, 3, none⟩ = some (.int .u64 0) := (zb Ja.o 3).trans rfl; have Dh : w9.cell? ⟨Jf, 4, none⟩ = some (.int .i64 0) := (zb Ja.o 4).trans rfl; have Df : w9.cell? ⟨Jf, 5, none⟩ = some (.int .i64 0) := (zb Ja.o 5).trans rfl; have Dc : w9.cell? ⟨Jf, 6, none⟩ = some (.int .i64 0) := (zb Ja.o 6).trans rfl; have Db : w9.cell? ⟨Jf, 7, none⟩ = some (.int .i64 0) := (zb Ja.o 7).trans rfl; have Da : w9.cell? ⟨Jf, 8, none⟩ = some (.int .i64 0) := (zb Ja.o 8).trans rfl; have G9 : w9.cell? ⟨Jf, 9, none⟩ = some (.int .i64 0) := (zb Ja.o 9).trans rfl; have GM := za Ja.o 0; have GL := za Ja.o 1; have GK := za Ja.o 2; have GJ := za Ja.o 3; have GI := za Ja.o 4; have GH := za Ja.o 5; have GG := za Ja.o 6; have GD := za Ja.o 7; have Gz := za Ja.o 8; have Gy := za Ja.o 9) | ((with_reducible refine zJ (t := 37) (p := 4) rfl ?_); refine zH (t := 37) (p := 4) (v := ?vo_w12) (w1 := ((((((((((w9.setCell ⟨Jf, 0, none⟩ (.int .i64 JX)).setCell ⟨Jf, 1, none⟩ (.int .i64 JW)).setCell ⟨Jf, 2, none⟩ (.int .i64 JV)).setCell ⟨Jf, 3, none⟩ (.int .u64 Jn)).setCell ⟨Jf, 4, none⟩ (.int .i64 JU)).setCell ⟨Jf, 5, none⟩ (.int .i64 JZ)).setCell ⟨Jf, 6, none⟩ (.int .i64 J2)).setCell ⟨Jf, 7, none⟩ (.int .i64 J3)).setCell ⟨Jf, 8, none⟩ (.int .i64 J4)).setCell ⟨Jf, 9, none⟩ (.int .i64 Jy))) ?hg ?ho ?hn ?hr ?_; (case ho => rfl); (case hg => rfl); (case hn => rfl); (case hr => exact zM rfl rfl rfl (zP (P := Tryz.prog) (o := 0) (cur := #[.int .i64 0, .int .i64 0, .int .i64 0, .int .u64 0, .int .i64 0, .int .i64 0, .int .i64 0, .int .i64 0, .int .i64 0, .int .i64 0]) 37 (.agg #[.int .i64 JX, .int .i64 JW, .int .i64 JV, .int .u64 Jn, .int .i64 JU, .int .i64 JZ, .int .i64 J2, .int .i64 J3, .int .i64 J4, .int .i64 Jy]) [.int .i64 JX, .int .i64 JW, .int .i64 JV, .int .u64 Jn, .int .i64 JU, .int .i64 JZ, .int .i64 J2, .int .i64 J3, .int .i64 J4, .int .i64 Jy] (show _ = some (Obj.cells #[.int .i64 0, .int .i64 0, .int .i64 0, .int .u64 0, .int .i64 0, .int .i64 0, .int .i64 0, .int .i64 0, .int .i64 0, .int .i64 0] 37 (0, 0)) from (by (with_reducible repeat (first | refine zg ?_ _ | refine zi ?_ | refine zh ?_ _)); exact Ja.o)) rfl (by kernel_rfl) (show 10 ≤ 10 by decide) (by intro q_ hq_; simp only [List.mem_cons, List.not_mem_nil, or_false] at hq_; rcases hq_ with rfl | rfl | rfl | rfl | rfl | rfl | rfl | rfl | rfl | rfl <;> rfl))); intro w12 hw; have n0_ : ze (w12.heap[Jg]? = some (.cells #[.int .i64 0, .int .i64 0, .int .i64 0, .int .u64 0, .int .i64 0, .int .i64 0, .int .i64 0, .int .i64 0, .int .i64 0, .int .i64 0] 37 (0, 0))) := ⟨(by rw [hw]; exact (by (with_reducible repeat (first | refine zg ?_ _ | refine zi ?_ | refine zh ?_ _)); refine zB ?_ Jj.o _; (with_reducible repeat (first | refine zg ?_ _ | refine zi ?_ | refine zh ?_ _)); refine zB ?_ Jj.o _; (with_reducible repeat (first | refine zg ?_ _ | refine zi ?_ | refine zh ?_ _)); refine zB ?_ Jj.o _; (with_reducible repeat (first | refine zg ?_ _ | refine zi ?_ | refine zh ?_ _)); refine zB ?_ Jj.o _; (with_reducible repeat (first | refine zg ?_ _ | refine zi ?_ | refine zh ?_ _)); refine zB ?_ Jj.o _; (with_reducible repeat (first | refine zg ?_ _ | refine zi ?_ | refine zh ?_ _)); refine zB ?_ Jj.o _; (with_reducible repeat (first | refine zg ?_ _ | refine zi ?_ | refine zh ?_ _)); refine zB ?_ Jj.o _; (with_reducible repeat (first | refine zg ?_ _ | refine zi ?_ | refine zh ?_ _)); refine zB ?_ Jj.o _; (with_reducible repeat (first | refine zg ?_ _ | refine zi ?_ | refine zh ?_ _)); refine zB ?_ Jj.o _; (with_reducible repeat (first | refine zg ?_ _ | refine zi ?_ | refine zh ?_ _)); refine zB ?_ Jj.o _; (with_reducible repeat (first | refine zg ?_ _ | refine zi ?_ | refine zh ?_ _)); exact Jh.o))⟩; have n1_ : ze (w12.heap[Jf]? = some (.cells #[.int .i64 JX, .int .i64 JW, .int .i64 JV, .int .u64 Jn, .int .i64 JU, .int .i64 JZ, .int .i64 J2, .int .i64 J3, .int .i64 J4, .int .i64 Jy] 37 (0, 0))) := ⟨(by rw [hw]; exact (by (with_reducible repeat (first | refine zg ?_ _ | refine zi ?_ | refine zh ?_ _)); refine zq (cs := #[.int .i64 JX, .int .i64 JW, .int .i64 JV, .int .u64 Jn, .int .i64 JU, .int .i64 JZ, .int .i64 J2, .int .i64 J3, .int .i64 J4, .int .i64 0]) ?_ 9 _ rfl; (with_reducible repeat (first | refine zg ?_ _ | refine zi ?_ | refine zh ?_ _)); refine zq (cs := #[.int .i64 JX, .int .i64 JW, .int .i64 JV, .int .u64 Jn, .int .i64 JU, .int .i64 JZ, .int .i64 J2, .int .i64 J3, .int .i64 0, .int .i64 0]) ?_ 8 _ rfl; (with_reducible repeat (first | refine zg ?_ _ | refine zi ?_ | refine zh ?_ _)); refine zq (cs := #[.int .i64 JX, .int .i64 JW, .int .i64 JV, .int .u64 Jn, .int .i64 JU, .int .i64 JZ, .int .i64 J2, .int .i64 0, .int .i64 0, .int .i64 0]) ?_ 7 _ rfl; (with_reducible repeat (first | refine zg ?_ _ | refine zi ?_ | refine zh ?_ _)); refine zq (cs := #[.int .i64 JX, .int .i64 JW, .int .i64 JV, .int .u64 Jn, .int .i64 JU, .int .i64 JZ, .int .i64 0, .int .i64 0, .int .i64 0, .int .i64 0]) ?_ 6 _ rfl; (with_reducible repeat (first | refine zg ?_ _ | refine zi ?_ | refine zh ?_ _)); refine zq (cs := #[.int .i64 JX, .int .i64 JW, .int .i64 JV, .int .u64 Jn, .int .i64 JU, .int .i64 0, .int .i64 0, .int .i64 0, .int .i64 0, .int .i64 0]) ?_ 5 _ rfl; (with_reducible repeat (first | refine zg ?_ _ | refine zi ?_ | refine zh ?_ _)); refine zq (cs := #[.int .i64 JX, .int .i64 JW, .int .i64 JV, .int .u64 Jn, .int .i64 0, .int .i64 0, .int .i64 0, .int .i64 0, .int .i64 0, .int .i64 0]) ?_ 4 _ rfl; (with_reducible repeat (first | refine zg ?_ _ | refine zi ?_ | refine zh ?_ _)); refine zq (cs := #[.int .i64 JX, .int .i64 JW, .int .i64 JV, .int .u64 0, .int .i64 0, .int .i64 0, .int .i64 0, .int .i64 0, .int .i64 0, .int .i64 0]) ?_ 3 _ rfl; (with_reducible repeat (first | refine zg ?_ _ | refine zi ?_ | refine zh ?_ _)); refine zq (cs := #[.int .i64 JX, .int .i64 JW, .int .i64 0, .int .u64 0, .int .i64 0, .int .i64 0, .int .i64 0, .int .i64 0, .int .i64 0, .int .i64 0]) ?_ 2 _ rfl; (with_reducible repeat (first | refine zg ?_ _ | refine zi ?_ | refine zh ?_ _)); refine zq (cs := #[.int .i64 JX, .int .i64 0, .int .i64 0, .int .u64 0, .int .i64 0, .int .i64 0, .int .i64 0, .int .i64 0, .int .i64 0, .int .i64 0]) ?_ 1 _ rfl; (with_reducible repeat (first | refine zg ?_ _ | refine zi ?_ | refine zh ?_ _)); refine zq (cs := #[.int .i64 0, .int .i64 0, .int .i64 0, .int .u64 0, .int .i64 0, .int .i64 0, .int .i64 0, .int .i64 0, .int .i64 0, .int .i64 0]) ?_ 0 _ rfl; (with_reducible repeat (first | refine zg ?_ _ | refine zi ?_ | refine zh ?_ _)); exact Ja.o))⟩; have n2_ : ze (Below w.heap.size w w12) := ⟨(by rw [hw]; exact (by repeat (first | (with_reducible first | exact HB.o | apply zl | apply zf | apply zk | refine zm ?_ Jq.o | refine zm ?_ Jt.o) | exact HB.o)))⟩; clear hw; clear Jh; clear Ja; clear HB; have Jh := n0_; have Ja := n1_; have HB := n2_; clear n0_ n1_ n2_; have DD : 0 ≤ (0 : Int) := (by omega); have Dw : 0 < (l0.length : Int) := of_decide_eq_true (by first | (with_reducible assumption) | assumption); obtain ⟨Jdl, e267, JI⟩ := Kd.zX HR0.o 0 DD Dw; obtain rfl : Jw = Jdl := (by injection e267); have qi267 : (0 < l0.length) = True := eq_true (by omega); (try rw [show ((0 : Int)).toNat = 0 from rfl] at JI); (try rw [Addr.add_zero'] at JI); replace JI := (HB.o.cell (World.block_lt_of_cell? w _ JI)).trans JI; replace DD := eq_true DD; replace Dw := eq_true Dw; have G8 : w12.cell? ⟨Jf, 0, none⟩ = some (.int .i64 JX) := (zb Ja.o 0).trans rfl; have G7 : w12.cell? ⟨Jf, 1, none⟩ = some (.int .i64 JW) := (zb Ja.o 1).trans rfl; have G5 : w12.cell? ⟨Jf, 2, none⟩ = some (.int .i64 JV) := (zb Ja.o 2).trans rfl; have GZ : w12.cell? ⟨Jf, 3, none⟩ = some (.int .u64 Jn) := (zb Ja.o 3).trans rfl; have GY : w12.cell? ⟨Jf, 4, none⟩ = some (.int .i64 JU) := (zb Ja.o 4).trans rfl; have GX : w12.cell? ⟨Jf, 5, none⟩ = some (.int .i64 JZ) := (zb Ja.o 5).trans rfl; have GV : w12.cell? ⟨Jf, 6, none⟩ = some (.int .i64 J2) := (zb Ja.o 6).trans rfl; have GU : w12.cell? ⟨Jf, 7, none⟩ = some (.int .i64 J3) := (zb Ja.o 7).trans rfl; have GR : w12.cell? ⟨Jf, 8, none⟩ = some (.int .i64 J4) := (zb Ja.o 8).trans rfl; have GQ : w12.cell? ⟨Jf, 9, none⟩ = some (.int .i64 Jy) := (zb Ja.o 9).trans rfl; have Gx := za Ja.o 0; have Gw := za Ja.o 1; have Gv := za Ja.o 2; have Gu := za Ja.o 3; have Gt := za Ja.o 4; have Gs := za Ja.o 5; have Gr := za Ja.o 6; have Gq := za Ja.o 7; have Gp := za Ja.o 8; have Gn := za Ja.o 9; have DC : 0 ≤ (0 : Int) := (by omega); have Dv : 0 < (l0.length : Int) := of_decide_eq_true (by first | (with_reducible assumption) | assumption); obtain ⟨Jdk, e268, Jv⟩ := Kd.zX HR0.o 0 DC Dv; obtain rfl : Jw = Jdk := (by injection e268); have qi268 : (0 < l0.length) = True := eq_true (by omega); (try rw [show ((0 : Int)).toNat = 0 from rfl] at Jv); (try rw [Addr.add_zero'] at Jv); have JR : (Jw : Addr).block ≠ Jf := Nat.ne_of_lt (Nat.lt_of_lt_of_le (by have := World.block_lt_of_cell? _ _ Jv; first | rwa [add_block] at this | exact this) JS.o); replace Jv := (HB.o.cell (World.block_lt_of_cell? w _ Jv)).trans Jv; replace Jv := (cell_far (p := ⟨Jf, 0, none⟩) (by first | (rw [add_block]; exact JR) | (show (Addr.add _ _).block ≠ _; rw [add_block]; exact JR) | exact JR) (.int .i64 (wrap64 (Int.tmod (rd l0 0) 256)))).trans Jv; clear JR; replace DC := eq_true DC; replace Dv := eq_true Dv; have Dz : 0 ≤ (0 : Int) := (by omega); have Du : 0 < (l0.length : Int) := of_decide_eq_true (by first | (with_reducible assumption) | assumption); obtain ⟨Jdj, e269, Jr⟩ := Kd.zX HR0.o 0 Dz Du; obtain rfl : Jw = Jdj := (by injection e269); have qi269 : (0 < l0.length) = True := eq_true (by omega); (try rw [show ((0 : Int)).toNat = 0 from rfl] at Jr); (try rw [Addr.add_zero'] at Jr); have JQ : (Jw : Addr).block ≠ Jf := Nat.ne_of_lt (Nat.lt_of_lt_of_le (by have := World.block_lt_of_cell? _ _ Jr; first | rwa [add_block] at this | exact this) JS.o); have JP : (Jw : Addr).block ≠ Jf := Nat.ne_of_lt (Nat.lt_of_lt_of_le (by have := World.block_lt_of_cell? _ _ Jr; first | rwa [add_block] at this | exact this) JS.o); replace Jr := (HB.o.cell (World.block_lt_of_cell? w _ Jr)).trans Jr; replace Jr := (cell_far (p := ⟨Jf, 0, none⟩) (by first | (rw [add_block]; exact JQ) | (show (Addr.add _ _).block ≠ _; rw [add_block]; exact JQ) | exact JQ) (.int .i64 (wrap64 (Int.tmod (rd l0 0) 256)))).trans Jr; replace Jr := (cell_far (p := ⟨Jf, 1, none⟩) (by first | (rw [add_block]; exact JP) | (show (Addr.add _ _).block ≠ _; rw [add_block]; exact JP) | exact JP) (.int .i64 (wrap64 (Int.tmod (IntKind.u64.wrap (Int.tdiv (rd l0 0) 256)) 65536)))).trans Jr; clear JQ; clear JP; replace Dz := eq_true Dz; replace Du := eq_true Du; have Dy : 0 ≤ (2 : Int) := (by omega); have Dt : 2 < (l0.length : Int) := of_decide_eq_true (by first | (with_reducible assumption) | assumption); obtain ⟨Jdi, e270, Jo⟩ := Kd.zX HR0.o 2 Dy Dt; obtain rfl : Jw = Jdi := (by injection e270); (try simp only [show (2 : Int).toNat = 2 from rfl, Nat.reduceMul, Nat.reduceEqDiff, Go.Addr.add, ↓reduceIte] at Jo); have qi270 : (2 < l0.length) = True := eq_true (by omega); (try rw [show ((2 : Int)).toNat = 2 from rfl] at Jo); have JO : (Jw : Addr).block ≠ Jf := Nat.ne_of_lt (Nat.lt_of_lt_of_le (by have := World.block_lt_of_cell? _ _ Jo; first | rwa [add_block] at this | exact this) JS.o); have JN : (Jw : Addr).block ≠ Jf := Nat.ne_of_lt (Nat.lt_of_lt_of_le (by have := World.block_lt_of_cell? _ _ Jo; first | rwa [add_block] at this | exact this) JS.o); have JM : (Jw : Addr).block ≠ Jf := Nat.ne_of_lt (Nat.lt_of_lt_of_le (by have := World.block_lt_of_cell? _ _ Jo; first | rwa [add_block] at this | exact this) JS.o); replace Jo := (HB.o.cell (World.block_lt_of_cell? w _ Jo)).trans Jo; replace Jo := (cell_far (p := ⟨Jf, 0, none⟩) (by first | (rw [add_block]; exact JO) | (show (Addr.add _ _).block ≠ _; rw [add_block]; exact JO) | exact JO) (.int .i64 (wrap64 (Int.tmod (rd l0 0) 256)))).trans Jo; replace Jo := (cell_far (p := ⟨Jf, 1, none⟩) (by first | (rw [add_block]; exact JN) | (show (Addr.add _ _).block ≠ _; rw [add_block]; exact JN) | exact JN) (.int .i64 (wrap64 (Int.tmod (IntKind.u64.wrap (Int.tdiv (rd l0 0) 256)) 65536)))).trans Jo; replace Jo := (cell_far (p := ⟨Jf, 2, none⟩) (by first | (rw [add_block]; exact JM) | (show (Addr.add _ _).block ≠ _; rw [add_block]; exact JM) | exact JM) (.int .i64 (wrap64 (Int.tmod (IntKind.u64.wrap (Int.tdiv (rd l0 0) 16777216)) 4294967296)))).trans Jo; clear JO; clear JN; clear JM; replace Dy := eq_true Dy; replace Dt := eq_true Dt))
     go_loopg [5, 6] k (fun kq v5 v6 w' => ∃ (Ju : Int) (J5 : Int) (Jb : Int) (Jc : Int) (Jd : Int) (Je : Int) (Jk : Int), v5 = .int .u64 Ju ∧ v6 = .int .i64 J5 ∧ ze (escritoireref06_Read.l0 kq l0 Ju J5 (wrap64 (Int.tmod (rd l0 0) 256)) (wrap64 (Int.tmod (IntKind.u64.wrap (Int.tdiv (rd l0 0) 256)) 65536)) (wrap64 (Int.tmod (IntKind.u64.wrap (Int.tdiv (rd l0 0) 16777216)) 4294967296)) Jn Jb Jc Jd Je Jk Jy = some (r1, r2, r3, r4, r5, r6, r7, r8, r9, r10, r11)) ∧ ze (kq ≤ k) ∧ ze (w'.heap[Jg]? = some (.cells #[.int .i64 0, .int .i64 0, .int .i64 0, .int .u64 0, .int .i64 0, .int .i64 0, .int .i64 0, .int .i64 0, .int .i64 0, .int .i64 0] 37 (0, 0))) ∧ ze (w'.heap[Jf]? = some (.cells #[.int .i64 (wrap64 (Int.tmod (rd l0 0) 256)), .int .i64 (wrap64 (Int.tmod (IntKind.u64.wrap (Int.tdiv (rd l0 0) 256)) 65536)), .int .i64 (wrap64 (Int.tmod (IntKind.u64.wrap (Int.tdiv (rd l0 0) 16777216)) 4294967296)), .int .u64 Jn, .int .i64 Jb, .int .i64 Jc, .int .i64 Jd, .int .i64 Je, .int .i64 Jk, .int .i64 Jy] 37 (0, 0))) ∧ ze (Below w.heap.size w w'))
     case atStart => exact ⟨(rd l0 2), (0), (JU), (JZ), (J2), (J3), (J4), (by first | rfl | (simp; done) | (simp [*]; done) | kernel_rfl), (by first | rfl | (simp; done) | (simp [*]; done) | kernel_rfl), H', ⟨Nat.le_refl _⟩, ⟨by (with_reducible repeat (first | refine zg ?_ _ | refine zi ?_ | refine zh ?_ _)); refine zB ?_ Jj.o _; (with_reducible repeat (first | refine zg ?_ _ | refine zi ?_ | refine zh ?_ _)); refine zB ?_ Jj.o _; (with_reducible repeat (first | refine zg ?_ _ | refine zi ?_ | refine zh ?_ _)); refine zB ?_ Jj.o _; (with_reducible repeat (first | refine zg ?_ _ | refine zi ?_ | refine zh ?_ _)); exact Jh.o⟩, ⟨by (with_reducible repeat (first | refine zg ?_ _ | refine zi ?_ | refine zh ?_ _)); refine zq (cs := #[.int .i64 (wrap64 (Int.tmod (rd l0 0) 256)), .int .i64 (wrap64 (Int.tmod (IntKind.u64.wrap (Int.tdiv (rd l0 0) 256)) 65536)), .int .i64 JV, .int .u64 Jn, .int .i64 JU, .int .i64 JZ, .int .i64 J2, .int .i64 J3, .int .i64 J4, .int .i64 Jy]) ?_ 2 _ rfl; (with_reducible repeat (first | refine zg ?_ _ | refine zi ?_ | refine zh ?_ _)); refine zq (cs := #[.int .i64 (wrap64 (Int.tmod (rd l0 0) 256)), .int .i64 JW, .int .i64 JV, .int .u64 Jn, .int .i64 JU, .int .i64 JZ, .int .i64 J2, .int .i64 J3, .int .i64 J4, .int .i64 Jy]) ?_ 1 _ rfl; (with_reducible repeat (first | refine zg ?_ _ | refine zi ?_ | refine zh ?_ _)); refine zq (cs := #[.int .i64 JX, .int .i64 JW, .int .i64 JV, .int .u64 Jn, .int .i64 JU, .int .i64 JZ, .int .i64 J2, .int .i64 J3, .int .i64 J4, .int .i64 Jy]) ?_ 0 _ rfl; (with_reducible repeat (first | refine zg ?_ _ | refine zi ?_ | refine zh ?_ _)); exact Ja.o⟩, ⟨by repeat (first | (with_reducible first | exact HB.o | apply zl | apply zf | apply zk | refine zm ?_ Jq.o | refine zm ?_ Jt.o) | exact HB.o)⟩⟩
     case round =>
      clear H'
      try clear c1
      try clear c2
      try clear c2b0
      try clear c2b1
      try clear p2
      try clear q2
      try clear hx2
      try clear qi2
      try clear c3
      try clear Jde
      try clear c3b1
      try clear c5
      try clear Jdd
      try clear Jdc
      try clear c6
      try clear c6b0
      try clear c6b1
      try clear p6
      try clear c7
      try clear c10
      try clear Dl
      try clear Dk
      try clear Dj
      try clear Di
      try clear Dh
      try clear Df
      try clear Dc
      try clear Db
      try clear Da
      try clear G9
      try clear G8
      try clear G7
      try clear G5
      try clear GZ
      try clear GY
      try clear GX
      try clear GV
      try clear GU
      try clear GR
      try clear GQ
      try clear GM
      try clear GL
      try clear GK
      try clear GJ
      try clear GI
      try clear GH
      try clear GG
      try clear GD
      try clear Gz
      try clear Gy
      try clear Gx
      try clear Gw
      try clear Gv
      try clear Gu
      try clear Gt
      try clear Gs
      try clear Gr
      try clear Gq
      try clear Gp
      try clear Gn
      try clear JJ
      try clear JI
      try clear Jv
      try clear Jr
      try clear Jo
      try clear DF
      try clear DD
      try clear DC
      try clear Dz
      try clear Dy
      try clear Dx
      try clear Dw
      try clear Dv
      try clear Du
      try clear Dt
      obtain ⟨Ju, J5, Jb, Jc, Jd, Je, Jk, rfl, rfl, HA, HK1, Jh, Ja, HB⟩ := hrel
      cases gk with
      | zero => exact absurd HA.o (by simp [escritoireref06_Read.l0])
      | succ k1 =>
       have H := HA.o
       clear HA
       simp only [escritoireref06_Read.l0] at H
       by_cases c14 : J5 < 4
       ·rw [if_pos c14] at H
        have Dq : decide (J5 < 4) = true := decide_eq_true c14
        clear c14
        by_cases c15 : J5 = 0
        ·subst c15
         have H1 : (escritoireref06_Read.l0 k1 l0 (IntKind.u64.wrap (Int.tdiv Ju 65536)) (wrap64 (0 + 1)) (wrap64 (Int.tmod (rd l0 0) 256)) (wrap64 (Int.tmod (IntKind.u64.wrap (Int.tdiv (rd l0 0) 256)) 65536)) (wrap64 (Int.tmod (IntKind.u64.wrap (Int.tdiv (rd l0 0) 16777216)) 4294967296)) Jn (wrap64 ((wrap64 (Int.tmod Ju 65536)) - 1)) Jc Jd Je Jk Jy) = some (r1, r2, r3, r4, r5, r6, r7, r8, r9, r10, r11) := by rw [if_pos rfl] at H; exact H
         clear H
         have H := H1
         clear H1
         have H' := ze.mk H
         clear H
         have hnb16 := Ji.o
         have hnc16 := Jj.o
         have Jdb : wr.cell? ⟨Jf, 0, none⟩ = some (.int .i64 (wrap64 (Int.tmod (rd l0 0) 256))) := (zb Ja.o 0).trans rfl
         have Jda : wr.cell? ⟨Jf, 1, none⟩ = some (.int .i64 (wrap64 (Int.tmod (IntKind.u64.wrap (Int.tdiv (rd l0 0) 256)) 65536))) := (zb Ja.o 1).trans rfl
         have Jc9 : wr.cell? ⟨Jf, 2, none⟩ = some (.int .i64 (wrap64 (Int.tmod (IntKind.u64.wrap (Int.tdiv (rd l0 0) 16777216)) 4294967296))) := (zb Ja.o 2).trans rfl
         have Jc8 : wr.cell? ⟨Jf, 3, none⟩ = some (.int .u64 Jn) := (zb Ja.o 3).trans rfl
         have Jc7 : wr.cell? ⟨Jf, 4, none⟩ = some (.int .i64 Jb) := (zb Ja.o 4).trans rfl
         have Jc6 : wr.cell? ⟨Jf, 5, none⟩ = some (.int .i64 Jc) := (zb Ja.o 5).trans rfl
         have Jc5 : wr.cell? ⟨Jf, 6, none⟩ = some (.int .i64 Jd) := (zb Ja.o 6).trans rfl
         have Jc4 : wr.cell? ⟨Jf, 7, none⟩ = some (.int .i64 Je) := (zb Ja.o 7).trans rfl
         have Jc3 : wr.cell? ⟨Jf, 8, none⟩ = some (.int .i64 Jk) := (zb Ja.o 8).trans rfl
         have Jc2 : wr.cell? ⟨Jf, 9, none⟩ = some (.int .i64 Jy) := (zb Ja.o 9).trans rfl
         have Jbf := za Ja.o 0
         have Jbe := za Ja.o 1
         have Jbd := za Ja.o 2
         have Jbc := za Ja.o 3
         have Jbb := za Ja.o 4
         have Jba := za Ja.o 5
         have Ja9 := za Ja.o 6
         have Ja8 := za Ja.o 7
         have Ja7 := za Ja.o 8
         have Ja6 := za Ja.o 9
         go_wp2
         go_roundg k1
         case measure => have := HK1.o; omega
         case rel => exact ⟨(IntKind.u64.wrap (Int.tdiv Ju 65536)), (wrap64 (0 + 1)), (wrap64 ((wrap64 (Int.tmod Ju 65536)) - 1)), (Jc), (Jd), (Je), (Jk), (by first | rfl | (simp; done) | (simp [*]; done) | kernel_rfl), (by first | rfl | (simp; done) | (simp [*]; done) | kernel_rfl), H', ⟨by have := HK1.o; omega⟩, ⟨by (with_reducible repeat (first | refine zg ?_ _ | refine zi ?_ | refine zh ?_ _)); refine zB ?_ Jj.o _; (with_reducible repeat (first | refine zg ?_ _ | refine zi ?_ | refine zh ?_ _)); exact Jh.o⟩, ⟨by (with_reducible repeat (first | refine zg ?_ _ | refine zi ?_ | refine zh ?_ _)); refine zq (cs := #[.int .i64 (wrap64 (Int.tmod (rd l0 0) 256)), .int .i64 (wrap64 (Int.tmod (IntKind.u64.wrap (Int.tdiv (rd l0 0) 256)) 65536)), .int .i64 (wrap64 (Int.tmod (IntKind.u64.wrap (Int.tdiv (rd l0 0) 16777216)) 4294967296)), .int .u64 Jn, .int .i64 Jb, .int .i64 Jc, .int .i64 Jd, .int .i64 Je, .int .i64 Jk, .int .i64 Jy]) ?_ 4 _ rfl; (with_reducible repeat (first | refine zg ?_ _ | refine zi ?_ | refine zh ?_ _)); exact Ja.o⟩, ⟨by repeat (first | (with_reducible first | exact HB.o | apply zl | apply zf | apply zk | refine zm ?_ Jq.o | refine zm ?_ Jt.o) | exact HB.o)⟩⟩
        ·rw [if_neg c15] at H
         by_cases c18 : J5 = 1
         ·subst c18
          have H1 : (escritoireref06_Read.l0 k1 l0 (IntKind.u64.wrap (Int.tdiv Ju 65536)) (wrap64 (1 + 1)) (wrap64 (Int.tmod (rd l0 0) 256)) (wrap64 (Int.tmod (IntKind.u64.wrap (Int.tdiv (rd l0 0) 256)) 65536)) (wrap64 (Int.tmod (IntKind.u64.wrap (Int.tdiv (rd l0 0) 16777216)) 4294967296)) Jn Jb (wrap64 ((wrap64 (Int.tmod Ju 65536)) - 1)) Jd Je Jk Jy) = some (r1, r2, r3, r4, r5, r6, r7, r8, r9, r10, r11) := by rw [if_pos rfl] at H; exact H
          clear H
          have H := H1
          clear H1
          have H' := ze.mk H
          clear H
          have hnb19 := Ji.o
          have hnc19 := Jj.o
          have Jc1 : wr.cell? ⟨Jf, 0, none⟩ = some (.int .i64 (wrap64 (Int.tmod (rd l0 0) 256))) := (zb Ja.o 0).trans rfl
          have Jc0 : wr.cell? ⟨Jf, 1, none⟩ = some (.int .i64 (wrap64 (Int.tmod (IntKind.u64.wrap (Int.tdiv (rd l0 0) 256)) 65536))) := (zb Ja.o 1).trans rfl
          have JcZ : wr.cell? ⟨Jf, 2, none⟩ = some (.int .i64 (wrap64 (Int.tmod (IntKind.u64.wrap (Int.tdiv (rd l0 0) 16777216)) 4294967296))) := (zb Ja.o 2).trans rfl
          have JcY : wr.cell? ⟨Jf, 3, none⟩ = some (.int .u64 Jn) := (zb Ja.o 3).trans rfl
          have JcX : wr.cell? ⟨Jf, 4, none⟩ = some (.int .i64 Jb) := (zb Ja.o 4).trans rfl
          have JcW : wr.cell? ⟨Jf, 5, none⟩ = some (.int .i64 Jc) := (zb Ja.o 5).trans rfl
          have JcV : wr.cell? ⟨Jf, 6, none⟩ = some (.int .i64 Jd) := (zb Ja.o 6).trans rfl
          have JcU : wr.cell? ⟨Jf, 7, none⟩ = some (.int .i64 Je) := (zb Ja.o 7).trans rfl
          have JcT : wr.cell? ⟨Jf, 8, none⟩ = some (.int .i64 Jk) := (zb Ja.o 8).trans rfl
          have JcS : wr.cell? ⟨Jf, 9, none⟩ = some (.int .i64 Jy) := (zb Ja.o 9).trans rfl
          have Ja5 := za Ja.o 0
          have Ja4 := za Ja.o 1
          have Ja3 := za Ja.o 2
          have Ja2 := za Ja.o 3
          have Ja1 := za Ja.o 4
          have Ja0 := za Ja.o 5
          have JaZ := za Ja.o 6
          have JaY := za Ja.o 7
          have JaX := za Ja.o 8
          have JaW := za Ja.o 9
          go_wp2
          go_roundg k1
          case measure => have := HK1.o; omega
          case rel => exact ⟨(IntKind.u64.wrap (Int.tdiv Ju 65536)), (wrap64 (1 + 1)), (Jb), (wrap64 ((wrap64 (Int.tmod Ju 65536)) - 1)), (Jd), (Je), (Jk), (by first | rfl | (simp; done) | (simp [*]; done) | kernel_rfl), (by first | rfl | (simp; done) | (simp [*]; done) | kernel_rfl), H', ⟨by have := HK1.o; omega⟩, ⟨by (with_reducible repeat (first | refine zg ?_ _ | refine zi ?_ | refine zh ?_ _)); refine zB ?_ Jj.o _; (with_reducible repeat (first | refine zg ?_ _ | refine zi ?_ | refine zh ?_ _)); exact Jh.o⟩, ⟨by (with_reducible repeat (first | refine zg ?_ _ | refine zi ?_ | refine zh ?_ _)); refine zq (cs := #[.int .i64 (wrap64 (Int.tmod (rd l0 0) 256)), .int .i64 (wrap64 (Int.tmod (IntKind.u64.wrap (Int.tdiv (rd l0 0) 256)) 65536)), .int .i64 (wrap64 (Int.tmod (IntKind.u64.wrap (Int.tdiv (rd l0 0) 16777216)) 4294967296)), .int .u64 Jn, .int .i64 Jb, .int .i64 Jc, .int .i64 Jd, .int .i64 Je, .int .i64 Jk, .int .i64 Jy]) ?_ 5 _ rfl; (with_reducible repeat (first | refine zg ?_ _ | refine zi ?_ | refine zh ?_ _)); exact Ja.o⟩, ⟨by repeat (first | (with_reducible first | exact HB.o | apply zl | apply zf | apply zk | refine zm ?_ Jq.o | refine zm ?_ Jt.o) | exact HB.o)⟩⟩
         ·rw [if_neg c18] at H
          by_cases c21 : J5 = 2
          ·subst c21
           have H1 : (escritoireref06_Read.l0 k1 l0 (IntKind.u64.wrap (Int.tdiv Ju 65536)) (wrap64 (2 + 1)) (wrap64 (Int.tmod (rd l0 0) 256)) (wrap64 (Int.tmod (IntKind.u64.wrap (Int.tdiv (rd l0 0) 256)) 65536)) (wrap64 (Int.tmod (IntKind.u64.wrap (Int.tdiv (rd l0 0) 16777216)) 4294967296)) Jn Jb Jc (wrap64 ((wrap64 (Int.tmod Ju 65536)) - 1)) Je Jk Jy) = some (r1, r2, r3, r4, r5, r6, r7, r8, r9, r10, r11) := by rw [if_pos rfl] at H; exact H
           clear H
           have H := H1
           clear H1
           have H' := ze.mk H
           clear H
           have hnb22 := Ji.o
           have hnc22 := Jj.o
           have JcR : wr.cell? ⟨Jf, 0, none⟩ = some (.int .i64 (wrap64 (Int.tmod (rd l0 0) 256))) := (zb Ja.o 0).trans rfl
           have JcQ : wr.cell? ⟨Jf, 1, none⟩ = some (.int .i64 (wrap64 (Int.tmod (IntKind.u64.wrap (Int.tdiv (rd l0 0) 256)) 65536))) := (zb Ja.o 1).trans rfl
           have JcP : wr.cell? ⟨Jf, 2, none⟩ = some (.int .i64 (wrap64 (Int.tmod (IntKind.u64.wrap (Int.tdiv (rd l0 0) 16777216)) 4294967296))) := (zb Ja.o 2).trans rfl
           have JcO : wr.cell? ⟨Jf, 3, none⟩ = some (.int .u64 Jn) := (zb Ja.o 3).trans rfl
           have JcN : wr.cell? ⟨Jf, 4, none⟩ = some (.int .i64 Jb) := (zb Ja.o 4).trans rfl
           have JcM : wr.cell? ⟨Jf, 5, none⟩ = some (.int .i64 Jc) := (zb Ja.o 5).trans rfl
           have JcL : wr.cell? ⟨Jf, 6, none⟩ = some (.int .i64 Jd) := (zb Ja.o 6).trans rfl
           have JcK : wr.cell? ⟨Jf, 7, none⟩ = some (.int .i64 Je) := (zb Ja.o 7).trans rfl
           have JcJ : wr.cell? ⟨Jf, 8, none⟩ = some (.int .i64 Jk) := (zb Ja.o 8).trans rfl
           have JcI : wr.cell? ⟨Jf, 9, none⟩ = some (.int .i64 Jy) := (zb Ja.o 9).trans rfl
           have JaV := za Ja.o 0
           have JaU := za Ja.o 1
           have JaT := za Ja.o 2
           have JaS := za Ja.o 3
           have JaR := za Ja.o 4
           have JaQ := za Ja.o 5
           have JaP := za Ja.o 6
           have JaO := za Ja.o 7
           have JaN := za Ja.o 8
           have JaM := za Ja.o 9
           go_wp2
           go_roundg k1
           case measure => have := HK1.o; omega
           case rel => exact ⟨(IntKind.u64.wrap (Int.tdiv Ju 65536)), (wrap64 (2 + 1)), (Jb), (Jc), (wrap64 ((wrap64 (Int.tmod Ju 65536)) - 1)), (Je), (Jk), (by first | rfl | (simp; done) | (simp [*]; done) | kernel_rfl), (by first | rfl | (simp; done) | (simp [*]; done) | kernel_rfl), H', ⟨by have := HK1.o; omega⟩, ⟨by (with_reducible repeat (first | refine zg ?_ _ | refine zi ?_ | refine zh ?_ _)); refine zB ?_ Jj.o _; (with_reducible repeat (first | refine zg ?_ _ | refine zi ?_ | refine zh ?_ _)); exact Jh.o⟩, ⟨by (with_reducible repeat (first | refine zg ?_ _ | refine zi ?_ | refine zh ?_ _)); refine zq (cs := #[.int .i64 (wrap64 (Int.tmod (rd l0 0) 256)), .int .i64 (wrap64 (Int.tmod (IntKind.u64.wrap (Int.tdiv (rd l0 0) 256)) 65536)), .int .i64 (wrap64 (Int.tmod (IntKind.u64.wrap (Int.tdiv (rd l0 0) 16777216)) 4294967296)), .int .u64 Jn, .int .i64 Jb, .int .i64 Jc, .int .i64 Jd, .int .i64 Je, .int .i64 Jk, .int .i64 Jy]) ?_ 6 _ rfl; (with_reducible repeat (first | refine zg ?_ _ | refine zi ?_ | refine zh ?_ _)); exact Ja.o⟩, ⟨by repeat (first | (with_reducible first | exact HB.o | apply zl | apply zf | apply zk | refine zm ?_ Jq.o | refine zm ?_ Jt.o) | exact HB.o)⟩⟩
          ·rw [if_neg c21] at H
           by_cases c24 : J5 = 3
           ·subst c24
            have H1 : (escritoireref06_Read.l0 k1 l0 (IntKind.u64.wrap (Int.tdiv Ju 65536)) (wrap64 (3 + 1)) (wrap64 (Int.tmod (rd l0 0) 256)) (wrap64 (Int.tmod (IntKind.u64.wrap (Int.tdiv (rd l0 0) 256)) 65536)) (wrap64 (Int.tmod (IntKind.u64.wrap (Int.tdiv (rd l0 0) 16777216)) 4294967296)) Jn Jb Jc Jd (wrap64 ((wrap64 (Int.tmod Ju 65536)) - 1)) Jk Jy) = some (r1, r2, r3, r4, r5, r6, r7, r8, r9, r10, r11) := by rw [if_pos rfl] at H; exact H
            clear H
            have H := H1
            clear H1
            have H' := ze.mk H
            clear H
            have hnb25 := Ji.o
            have hnc25 := Jj.o
            have JcH : wr.cell? ⟨Jf, 0, none⟩ = some (.int .i64 (wrap64 (Int.tmod (rd l0 0) 256))) := (zb Ja.o 0).trans rfl
            have JcG : wr.cell? ⟨Jf, 1, none⟩ = some (.int .i64 (wrap64 (Int.tmod (IntKind.u64.wrap (Int.tdiv (rd l0 0) 256)) 65536))) := (zb Ja.o 1).trans rfl
            have JcF : wr.cell? ⟨Jf, 2, none⟩ = some (.int .i64 (wrap64 (Int.tmod (IntKind.u64.wrap (Int.tdiv (rd l0 0) 16777216)) 4294967296))) := (zb Ja.o 2).trans rfl
            have JcE : wr.cell? ⟨Jf, 3, none⟩ = some (.int .u64 Jn) := (zb Ja.o 3).trans rfl
            have JcD : wr.cell? ⟨Jf, 4, none⟩ = some (.int .i64 Jb) := (zb Ja.o 4).trans rfl
            have JcC : wr.cell? ⟨Jf, 5, none⟩ = some (.int .i64 Jc) := (zb Ja.o 5).trans rfl
            have JcB : wr.cell? ⟨Jf, 6, none⟩ = some (.int .i64 Jd) := (zb Ja.o 6).trans rfl
            have JcA : wr.cell? ⟨Jf, 7, none⟩ = some (.int .i64 Je) := (zb Ja.o 7).trans rfl
            have Jcz : wr.cell? ⟨Jf, 8, none⟩ = some (.int .i64 Jk) := (zb Ja.o 8).trans rfl
            have Jcy : wr.cell? ⟨Jf, 9, none⟩ = some (.int .i64 Jy) := (zb Ja.o 9).trans rfl
            have JaL := za Ja.o 0
            have JaK := za Ja.o 1
            have JaJ := za Ja.o 2
            have JaI := za Ja.o 3
            have JaH := za Ja.o 4
            have JaG := za Ja.o 5
            have JaF := za Ja.o 6
            have JaE := za Ja.o 7
            have JaD := za Ja.o 8
            have JaC := za Ja.o 9
            go_wp2
            go_roundg k1
            case measure => have := HK1.o; omega
            case rel => exact ⟨(IntKind.u64.wrap (Int.tdiv Ju 65536)), (wrap64 (3 + 1)), (Jb), (Jc), (Jd), (wrap64 ((wrap64 (Int.tmod Ju 65536)) - 1)), (Jk), (by first | rfl | (simp; done) | (simp [*]; done) | kernel_rfl), (by first | rfl | (simp; done) | (simp [*]; done) | kernel_rfl), H', ⟨by have := HK1.o; omega⟩, ⟨by (with_reducible repeat (first | refine zg ?_ _ | refine zi ?_ | refine zh ?_ _)); refine zB ?_ Jj.o _; (with_reducible repeat (first | refine zg ?_ _ | refine zi ?_ | refine zh ?_ _)); exact Jh.o⟩, ⟨by (with_reducible repeat (first | refine zg ?_ _ | refine zi ?_ | refine zh ?_ _)); refine zq (cs := #[.int .i64 (wrap64 (Int.tmod (rd l0 0) 256)), .int .i64 (wrap64 (Int.tmod (IntKind.u64.wrap (Int.tdiv (rd l0 0) 256)) 65536)), .int .i64 (wrap64 (Int.tmod (IntKind.u64.wrap (Int.tdiv (rd l0 0) 16777216)) 4294967296)), .int .u64 Jn, .int .i64 Jb, .int .i64 Jc, .int .i64 Jd, .int .i64 Je, .int .i64 Jk, .int .i64 Jy]) ?_ 7 _ rfl; (with_reducible repeat (first | refine zg ?_ _ | refine zi ?_ | refine zh ?_ _)); exact Ja.o⟩, ⟨by repeat (first | (with_reducible first | exact HB.o | apply zl | apply zf | apply zk | refine zm ?_ Jq.o | refine zm ?_ Jt.o) | exact HB.o)⟩⟩
           ·rw [if_neg c24] at H
            by_cases c27 : J5 = 4
            ·subst c27
             exact absurd Dq (by decide)
            ·rw [if_neg c27] at H
             exact absurd H (by simp)
       ·rw [if_neg c14] at H
        have Dq : decide (J5 < 4) = false := decide_eq_false c14
        clear c14
        by_cases c28 : 3 < (l0.length : Int)
        ·rw [if_pos c28] at H
         have c28b0 : decide (3 < (l0.length : Int)) = true := decide_eq_true c28
         have c28b1 : decide (3 < l0.length) = true := decide_eq_true (by omega)
         clear c28
         replace H := Option.bind_eq_some_iff.mp H
         obtain ⟨⟨JY, Gd⟩, A290, H⟩ := H
         replace H : (if Gd = 0 then ((escritoireref01_Same.f k1 JY l0).bind fun Dm => (if Dm = true then (some ((wrap64 (Int.tmod (rd l0 0) 256)), (wrap64 (Int.tmod (IntKind.u64.wrap (Int.tdiv (rd l0 0) 256)) 65536)), (wrap64 (Int.tmod (IntKind.u64.wrap (Int.tdiv (rd l0 0) 16777216)) 4294967296)), Jn, Jb, Jc, Jd, Je, wrap64 ((wrap64 (Int.tmod (rd l0 3) 65536)) - 1), wrap64 ((wrap64 (Int.tmod (IntKind.u64.wrap (Int.tdiv (rd l0 3) 65536)) 65536)) - 1), 0)) else (some (0, 0, 0, 0, 0, 0, 0, 0, 0, 0, 15)))) else (some (0, 0, 0, 0, 0, 0, 0, 0, 0, 0, 15))) = some (r1, r2, r3, r4, r5, r6, r7, r8, r9, r10, r11) := H
         have A29 := ze.mk A290
         clear A290
         by_cases c30 : Gd = 0
         ·rw [if_pos c30] at H
          have Jdg : (Gd == 0) = true := beq_iff_eq.mpr c30
          have Jdf : (Gd != 0) = false := bne_eq_false_iff_eq.mpr c30
          clear c30
          replace H := Option.bind_eq_some_iff.mp H
          obtain ⟨Dm, A310, H⟩ := H
          replace H : (if Dm = true then (some ((wrap64 (Int.tmod (rd l0 0) 256)), (wrap64 (Int.tmod (IntKind.u64.wrap (Int.tdiv (rd l0 0) 256)) 65536)), (wrap64 (Int.tmod (IntKind.u64.wrap (Int.tdiv (rd l0 0) 16777216)) 4294967296)), Jn, Jb, Jc, Jd, Je, wrap64 ((wrap64 (Int.tmod (rd l0 3) 65536)) - 1), wrap64 ((wrap64 (Int.tmod (IntKind.u64.wrap (Int.tdiv (rd l0 3) 65536)) 65536)) - 1), 0)) else (some (0, 0, 0, 0, 0, 0, 0, 0, 0, 0, 15))) = some (r1, r2, r3, r4, r5, r6, r7, r8, r9, r10, r11) := H
          have A31 := ze.mk A310
          clear A310
          by_cases c32 : Dm = true
          ·subst c32
           have H1 : (some ((wrap64 (Int.tmod (rd l0 0) 256)), (wrap64 (Int.tmod (IntKind.u64.wrap (Int.tdiv (rd l0 0) 256)) 65536)), (wrap64 (Int.tmod (IntKind.u64.wrap (Int.tdiv (rd l0 0) 16777216)) 4294967296)), Jn, Jb, Jc, Jd, Je, wrap64 ((wrap64 (Int.tmod (rd l0 3) 65536)) - 1), wrap64 ((wrap64 (Int.tmod (IntKind.u64.wrap (Int.tdiv (rd l0 3) 65536)) 65536)) - 1), 0)) = some (r1, r2, r3, r4, r5, r6, r7, r8, r9, r10, r11) := by rw [if_pos rfl] at H; exact H
           clear H
           have H := H1
           clear H1
           simp only [Option.some.injEq, Prod.mk.injEq] at H
           obtain ⟨rfl, rfl, rfl, rfl, rfl, rfl, rfl, rfl, rfl, rfl, rfl⟩ := H
           have J9 : 0 ≤ (3 : Int) := (by omega)
           have J7 : 3 < (l0.length : Int) := of_decide_eq_true (by first | (with_reducible assumption) | assumption)
           obtain ⟨Gc, e271, Jm⟩ := Kd.zX HR0.o 3 J9 J7
           obtain rfl : Jw = Gc := (by injection e271)
           (try simp only [show (3 : Int).toNat = 3 from rfl, Nat.reduceMul, Nat.reduceEqDiff, Go.Addr.add, ↓reduceIte] at Jm)
           have Dp : (3 < l0.length) = True := eq_true (by omega)
           (try rw [show ((3 : Int)).toNat = 3 from rfl] at Jm)
           replace Jm := (HB.o.cell (World.block_lt_of_cell? w _ Jm)).trans Jm
           replace J9 := eq_true J9
           replace J7 := eq_true J7
           have hnb33 := Ji.o
           have hnc33 := Jj.o
           have Jcx : wr.cell? ⟨Jf, 0, none⟩ = some (.int .i64 (wrap64 (Int.tmod (rd l0 0) 256))) := (zb Ja.o 0).trans rfl
           have Jcw : wr.cell? ⟨Jf, 1, none⟩ = some (.int .i64 (wrap64 (Int.tmod (IntKind.u64.wrap (Int.tdiv (rd l0 0) 256)) 65536))) := (zb Ja.o 1).trans rfl
           have Jcv : wr.cell? ⟨Jf, 2, none⟩ = some (.int .i64 (wrap64 (Int.tmod (IntKind.u64.wrap (Int.tdiv (rd l0 0) 16777216)) 4294967296))) := (zb Ja.o 2).trans rfl
           have Jcu : wr.cell? ⟨Jf, 3, none⟩ = some (.int .u64 Jn) := (zb Ja.o 3).trans rfl
           have Jct : wr.cell? ⟨Jf, 4, none⟩ = some (.int .i64 Jb) := (zb Ja.o 4).trans rfl
           have Jcs : wr.cell? ⟨Jf, 5, none⟩ = some (.int .i64 Jc) := (zb Ja.o 5).trans rfl
           have Jcr : wr.cell? ⟨Jf, 6, none⟩ = some (.int .i64 Jd) := (zb Ja.o 6).trans rfl
           have Jcq : wr.cell? ⟨Jf, 7, none⟩ = some (.int .i64 Je) := (zb Ja.o 7).trans rfl
           have Jcp : wr.cell? ⟨Jf, 8, none⟩ = some (.int .i64 Jk) := (zb Ja.o 8).trans rfl
           have Jco : wr.cell? ⟨Jf, 9, none⟩ = some (.int .i64 Jy) := (zb Ja.o 9).trans rfl
           have JaB := za Ja.o 0
           have JaA := za Ja.o 1
           have Jaz := za Ja.o 2
           have Jay := za Ja.o 3
           have Jax := za Ja.o 4
           have Jaw := za Ja.o 5
           have Jav := za Ja.o 6
           have Jau := za Ja.o 7
           have Jat := za Ja.o 8
           have Jas := za Ja.o 9
           have J8 : 0 ≤ (3 : Int) := (by omega)
           have J6 : 3 < (l0.length : Int) := of_decide_eq_true (by first | (with_reducible assumption) | assumption)
           obtain ⟨Gb, e272, Jl⟩ := Kd.zX HR0.o 3 J8 J6
           obtain rfl : Jw = Gb := (by injection e272)
           (try simp only [show (3 : Int).toNat = 3 from rfl, Nat.reduceMul, Nat.reduceEqDiff, Go.Addr.add, ↓reduceIte] at Jl)
           have Dn : (3 < l0.length) = True := eq_true (by omega)
           (try rw [show ((3 : Int)).toNat = 3 from rfl] at Jl)
           have Jp : (Jw : Addr).block ≠ Jf := Nat.ne_of_lt (Nat.lt_of_lt_of_le (by have := World.block_lt_of_cell? _ _ Jl; first | rwa [add_block] at this | exact this) JS.o)
           replace Jl := (HB.o.cell (World.block_lt_of_cell? w _ Jl)).trans Jl
           replace Jl := (cell_far (p := ⟨Jf, 8, none⟩) (by first | (rw [add_block]; exact Jp) | (show (Addr.add _ _).block ≠ _; rw [add_block]; exact Jp) | exact Jp) (.int .i64 (wrap64 ((wrap64 (Int.tmod (rd l0 3) 65536)) - 1)))).trans Jl
           clear Jp
           replace J8 := eq_true J8
           replace J6 := eq_true J6
           go_wp2_with (first | ((with_reducible refine zN (f := 56) rfl ?_); refine yh (some 71) rfl rfl Tryz.func56 (by kernel_rfl) rfl #[.agg #[.int .i64 (wrap64 (Int.tmod (rd l0 0) 256)), .int .i64 (wrap64 (Int.tmod (IntKind.u64.wrap (Int.tdiv (rd l0 0) 256)) 65536)), .int .i64 (wrap64 (Int.tmod (IntKind.u64.wrap (Int.tdiv (rd l0 0) 16777216)) 4294967296)), .int .u64 Jn, .int .i64 Jb, .int .i64 Jc, .int .i64 Jd, .int .i64 Je, .int .i64 (wrap64 ((wrap64 (Int.tmod (rd l0 3) 65536)) - 1)), .int .i64 (wrap64 ((wrap64 (Int.tmod (IntKind.u64.wrap (Int.tdiv (rd l0 3) 65536)) 65536)) - 1))]] rfl (by (try simp only [List.map_toArray, List.map_cons, List.map_nil]); first | done | rfl | (simp only [List.length_drop, List.length_take]; rfl)) ?_; (with_reducible refine (escritoireref06_Write.calls k1 (wrap64 (Int.tmod (rd l0 0) 256)) (wrap64 (Int.tmod (IntKind.u64.wrap (Int.tdiv (rd l0 0) 256)) 65536)) (wrap64 (Int.tmod (IntKind.u64.wrap (Int.tdiv (rd l0 0) 16777216)) 4294967296)) Jn Jb Jc Jd Je (wrap64 ((wrap64 (Int.tmod (rd l0 3) 65536)) - 1)) (wrap64 ((wrap64 (Int.tmod (IntKind.u64.wrap (Int.tdiv (rd l0 3) 65536)) 65536)) - 1)) JY Gd _ A29.o).mono ?_); rintro e w35 ⟨DI, rfl, ho0, hb⟩; refine ⟨_, rfl, ?_⟩; have n0_ := ze.mk (Kd.yf ho0 (zt (by repeat (first | (with_reducible first | exact HB.o | apply zl | apply zf | apply zk | refine zm ?_ Jq.o | refine zm ?_ Jt.o) | exact HB.o)))); have n1_ := ze.mk (zK (g := Jg) (o := .cells #[.int .i64 0, .int .i64 0, .int .i64 0, .int .u64 0, .int .i64 0, .int .i64 0, .int .i64 0, .int .i64 0, .int .i64 0, .int .i64 0] 37 (0, 0)) (by (with_reducible repeat (first | refine zg ?_ _ | refine zi ?_ | refine zh ?_ _)); refine zB ?_ Jj.o _; (with_reducible repeat (first | refine zg ?_ _ | refine zi ?_ | refine zh ?_ _)); refine zB ?_ Jj.o _; (with_reducible repeat (first | refine zg ?_ _ | refine zi ?_ | refine zh ?_ _)); exact Jh.o) hb); have n2_ := ze.mk (zK (g := Jf) (o := .cells #[.int .i64 (wrap64 (Int.tmod (rd l0 0) 256)), .int .i64 (wrap64 (Int.tmod (IntKind.u64.wrap (Int.tdiv (rd l0 0) 256)) 65536)), .int .i64 (wrap64 (Int.tmod (IntKind.u64.wrap (Int.tdiv (rd l0 0) 16777216)) 4294967296)), .int .u64 Jn, .int .i64 Jb, .int .i64 Jc, .int .i64 Jd, .int .i64 Je, .int .i64 (wrap64 ((wrap64 (Int.tmod (rd l0 3) 65536)) - 1)), .int .i64 (wrap64 ((wrap64 (Int.tmod (IntKind.u64.wrap (Int.tdiv (rd l0 3) 65536)) 65536)) - 1))] 37 (0, 0)) (by (with_reducible repeat (first | refine zg ?_ _ | refine zi ?_ | refine zh ?_ _)); refine zq (cs := #[.int .i64 (wrap64 (Int.tmod (rd l0 0) 256)), .int .i64 (wrap64 (Int.tmod (IntKind.u64.wrap (Int.tdiv (rd l0 0) 256)) 65536)), .int .i64 (wrap64 (Int.tmod (IntKind.u64.wrap (Int.tdiv (rd l0 0) 16777216)) 4294967296)), .int .u64 Jn, .int .i64 Jb, .int .i64 Jc, .int .i64 Jd, .int .i64 Je, .int .i64 (wrap64 ((wrap64 (Int.tmod (rd l0 3) 65536)) - 1)), .int .i64 Jy]) ?_ 9 _ rfl; (with_reducible repeat (first | refine zg ?_ _ | refine zi ?_ | refine zh ?_ _)); refine zq (cs := #[.int .i64 (wrap64 (Int.tmod (rd l0 0) 256)), .int .i64 (wrap64 (Int.tmod (IntKind.u64.wrap (Int.tdiv (rd l0 0) 256)) 65536)), .int .i64 (wrap64 (Int.tmod (IntKind.u64.wrap (Int.tdiv (rd l0 0) 16777216)) 4294967296)), .int .u64 Jn, .int .i64 Jb, .int .i64 Jc, .int .i64 Jd, .int .i64 Je, .int .i64 Jk, .int .i64 Jy]) ?_ 8 _ rfl; (with_reducible repeat (first | refine zg ?_ _ | refine zi ?_ | refine zh ?_ _)); exact Ja.o) hb); have n3_ := ze.mk (zu (by repeat (first | (with_reducible first | exact HB.o | apply zl | apply zf | apply zk | refine zm ?_ Jq.o | refine zm ?_ Jt.o) | exact HB.o)) hb); clear Jh; clear Ja; clear HB; have Js := n0_; have Jh := n1_; have Ja := n2_; have HB := n3_; clear n0_ n1_ n2_ n3_; (try clear hb); (try clear hb2); (try clear hk); (try clear hi); (try clear ho0); obtain ⟨Ao36, co36, eo36⟩ := Kd.yc Js.o; subst eo36) | (go_at_call 30; (with_reducible refine (escritoireref01_Same.calls k1 _ _ JY _ _ l0 true _ ?Gi ?Gh ?Gg ?Gf A31.o).mono ?_); (case Gi => repeat (first | exact (Kd.zQ Js.o).2.2 | (with_reducible refine Kd.ZT ?_ _) | (with_reducible refine Kd.ZR ?_ _) | (with_reducible refine Kd.YL ?_))); (case Gh => exact (Kd.zQ Js.o).2.1); (case Gg => repeat (first | exact (Kd.zZ HR0.o HB.o) | (with_reducible refine Kd.ZT ?_ _) | (with_reducible refine Kd.ZR ?_ _) | (with_reducible refine Kd.YL ?_))); (case Gf => exact HC0.o); rintro e w' ⟨rfl, ⟨nd, rfl⟩⟩; (try (rw [zW w35]; generalize hq_ : World.drewN w35 _ = w35; have n0_ : ze (Kd.R (Kd.int .u64) 34 w35 w.heap.size (fun _ => True) (.slice Ao36 JY.length co36) JY) := ⟨by rw [← hq_]; exact (by (with_reducible repeat (first | apply Kd.zz | apply Kd.zA | apply Kd.zF)); exact Js.o)⟩; have n1_ : ze (w35.heap[Jg]? = some (.cells #[.int .i64 0, .int .i64 0, .int .i64 0, .int .u64 0, .int .i64 0, .int .i64 0, .int .i64 0, .int .i64 0, .int .i64 0, .int .i64 0] 37 (0, 0))) := ⟨by rw [← hq_]; exact (by (with_reducible repeat (first | refine zg ?_ _ | refine zi ?_ | refine zh ?_ _)); exact Jh.o)⟩; have n2_ : ze (w35.heap[Jf]? = some (.cells #[.int .i64 (wrap64 (Int.tmod (rd l0 0) 256)), .int .i64 (wrap64 (Int.tmod (IntKind.u64.wrap (Int.tdiv (rd l0 0) 256)) 65536)), .int .i64 (wrap64 (Int.tmod (IntKind.u64.wrap (Int.tdiv (rd l0 0) 16777216)) 4294967296)), .int .u64 Jn, .int .i64 Jb, .int .i64 Jc, .int .i64 Jd, .int .i64 Je, .int .i64 (wrap64 ((wrap64 (Int.tmod (rd l0 3) 65536)) - 1)), .int .i64 (wrap64 ((wrap64 (Int.tmod (IntKind.u64.wrap (Int.tdiv (rd l0 3) 65536)) 65536)) - 1))] 37 (0, 0))) := ⟨by rw [← hq_]; exact (by (with_reducible repeat (first | refine zg ?_ _ | refine zi ?_ | refine zh ?_ _)); exact Ja.o)⟩; have n3_ : ze (Below w.heap.size w w35) := ⟨by rw [← hq_]; exact (by repeat (first | (with_reducible first | exact HB.o | apply zl | apply zf | apply zk | refine zm ?_ Jq.o | refine zm ?_ Jt.o) | exact HB.o))⟩; clear Js Jh Ja HB hq_; have Js := n0_; have Jh := n1_; have Ja := n2_; have HB := n3_; clear n0_ n1_ n2_ n3_)); have Jcn : w35.cell? ⟨Jf, 0, none⟩ = some (.int .i64 (wrap64 (Int.tmod (rd l0 0) 256))) := (zb Ja.o 0).trans rfl; have Jcm : w35.cell? ⟨Jf, 1, none⟩ = some (.int .i64 (wrap64 (Int.tmod (IntKind.u64.wrap (Int.tdiv (rd l0 0) 256)) 65536))) := (zb Ja.o 1).trans rfl; have Jcl : w35.cell? ⟨Jf, 2, none⟩ = some (.int .i64 (wrap64 (Int.tmod (IntKind.u64.wrap (Int.tdiv (rd l0 0) 16777216)) 4294967296))) := (zb Ja.o 2).trans rfl; have Jck : w35.cell? ⟨Jf, 3, none⟩ = some (.int .u64 Jn) := (zb Ja.o 3).trans rfl; have Jcj : w35.cell? ⟨Jf, 4, none⟩ = some (.int .i64 Jb) := (zb Ja.o 4).trans rfl; have Jci : w35.cell? ⟨Jf, 5, none⟩ = some (.int .i64 Jc) := (zb Ja.o 5).trans rfl; have Jch : w35.cell? ⟨Jf, 6, none⟩ = some (.int .i64 Jd) := (zb Ja.o 6).trans rfl; have Jcg : w35.cell? ⟨Jf, 7, none⟩ = some (.int .i64 Je) := (zb Ja.o 7).trans rfl; have Jcf : w35.cell? ⟨Jf, 8, none⟩ = some (.int .i64 (wrap64 ((wrap64 (Int.tmod (rd l0 3) 65536)) - 1))) := (zb Ja.o 8).trans rfl; have Jce : w35.cell? ⟨Jf, 9, none⟩ = some (.int .i64 (wrap64 ((wrap64 (Int.tmod (IntKind.u64.wrap (Int.tdiv (rd l0 3) 65536)) 65536)) - 1))) := (zb Ja.o 9).trans rfl; have Jar := za Ja.o 0; have Jaq := za Ja.o 1; have Jap := za Ja.o 2; have Jao := za Ja.o 3; have Jan := za Ja.o 4; have Jam := za Ja.o 5; have Jal := za Ja.o 6; have Jak := za Ja.o 7; have Jaj := za Ja.o 8; have Jai := za Ja.o 9; have Jcd : w35.cell? ⟨Jg, 0, none⟩ = some (.int .i64 0) := (zb Jh.o 0).trans rfl; have Jcc : w35.cell? ⟨Jg, 1, none⟩ = some (.int .i64 0) := (zb Jh.o 1).trans rfl; have Jcb : w35.cell? ⟨Jg, 2, none⟩ = some (.int .i64 0) := (zb Jh.o 2).trans rfl; have Jca : w35.cell? ⟨Jg, 3, none⟩ = some (.int .u64 0) := (zb Jh.o 3).trans rfl; have Jb9 : w35.cell? ⟨Jg, 4, none⟩ = some (.int .i64 0) := (zb Jh.o 4).trans rfl; have Jb8 : w35.cell? ⟨Jg, 5, none⟩ = some (.int .i64 0) := (zb Jh.o 5).trans rfl; have Jb7 : w35.cell? ⟨Jg, 6, none⟩ = some (.int .i64 0) := (zb Jh.o 6).trans rfl; have Jb6 : w35.cell? ⟨Jg, 7, none⟩ = some (.int .i64 0) := (zb Jh.o 7).trans rfl; have Jb5 : w35.cell? ⟨Jg, 8, none⟩ = some (.int .i64 0) := (zb Jh.o 8).trans rfl; have Jb4 : w35.cell? ⟨Jg, 9, none⟩ = some (.int .i64 0) := (zb Jh.o 9).trans rfl; have Jah := za Jh.o 0; have Jag := za Jh.o 1; have Jaf := za Jh.o 2; have Jae := za Jh.o 3; have Jad := za Jh.o 4; have Jac := za Jh.o 5; have Jab := za Jh.o 6; have Jaa := za Jh.o 7; have BZ := za Jh.o 8; have BX := za Jh.o 9) | ((with_reducible refine zJ (t := 37) (p := 2) rfl ?_); refine zH (t := 37) (p := 2) (v := ?vo_w39) (w1 := ((((((((((w35.setCell ⟨Jg, 0, none⟩ (.int .i64 (wrap64 (Int.tmod (rd l0 0) 256)))).setCell ⟨Jg, 1, none⟩ (.int .i64 (wrap64 (Int.tmod (IntKind.u64.wrap (Int.tdiv (rd l0 0) 256)) 65536)))).setCell ⟨Jg, 2, none⟩ (.int .i64 (wrap64 (Int.tmod (IntKind.u64.wrap (Int.tdiv (rd l0 0) 16777216)) 4294967296)))).setCell ⟨Jg, 3, none⟩ (.int .u64 Jn)).setCell ⟨Jg, 4, none⟩ (.int .i64 Jb)).setCell ⟨Jg, 5, none⟩ (.int .i64 Jc)).setCell ⟨Jg, 6, none⟩ (.int .i64 Jd)).setCell ⟨Jg, 7, none⟩ (.int .i64 Je)).setCell ⟨Jg, 8, none⟩ (.int .i64 (wrap64 ((wrap64 (Int.tmod (rd l0 3) 65536)) - 1)))).setCell ⟨Jg, 9, none⟩ (.int .i64 (wrap64 ((wrap64 (Int.tmod (IntKind.u64.wrap (Int.tdiv (rd l0 3) 65536)) 65536)) - 1))))) ?hg ?ho ?hn ?hr ?_; (case ho => rfl); (case hg => rfl); (case hn => rfl); (case hr => exact zM rfl rfl rfl (zP (P := Tryz.prog) (o := 0) (cur := #[.int .i64 0, .int .i64 0, .int .i64 0, .int .u64 0, .int .i64 0, .int .i64 0, .int .i64 0, .int .i64 0, .int .i64 0, .int .i64 0]) 37 (.agg #[.int .i64 (wrap64 (Int.tmod (rd l0 0) 256)), .int .i64 (wrap64 (Int.tmod (IntKind.u64.wrap (Int.tdiv (rd l0 0) 256)) 65536)), .int .i64 (wrap64 (Int.tmod (IntKind.u64.wrap (Int.tdiv (rd l0 0) 16777216)) 4294967296)), .int .u64 Jn, .int .i64 Jb, .int .i64 Jc, .int .i64 Jd, .int .i64 Je, .int .i64 (wrap64 ((wrap64 (Int.tmod (rd l0 3) 65536)) - 1)), .int .i64 (wrap64 ((wrap64 (Int.tmod (IntKind.u64.wrap (Int.tdiv (rd l0 3) 65536)) 65536)) - 1))]) [.int .i64 (wrap64 (Int.tmod (rd l0 0) 256)), .int .i64 (wrap64 (Int.tmod (IntKind.u64.wrap (Int.tdiv (rd l0 0) 256)) 65536)), .int .i64 (wrap64 (Int.tmod (IntKind.u64.wrap (Int.tdiv (rd l0 0) 16777216)) 4294967296)), .int .u64 Jn, .int .i64 Jb, .int .i64 Jc, .int .i64 Jd, .int .i64 Je, .int .i64 (wrap64 ((wrap64 (Int.tmod (rd l0 3) 65536)) - 1)), .int .i64 (wrap64 ((wrap64 (Int.tmod (IntKind.u64.wrap (Int.tdiv (rd l0 3) 65536)) 65536)) - 1))] (show _ = some (Obj.cells #[.int .i64 0, .int .i64 0, .int .i64 0, .int .u64 0, .int .i64 0, .int .i64 0, .int .i64 0, .int .i64 0, .int .i64 0, .int .i64 0] 37 (0, 0)) from (by (with_reducible repeat (first | refine zg ?_ _ | refine zi ?_ | refine zh ?_ _)); exact Jh.o)) rfl (by kernel_rfl) (show 10 ≤ 10 by decide) (by intro q_ hq_; simp only [List.mem_cons, List.not_mem_nil, or_false] at hq_; rcases hq_ with rfl | rfl | rfl | rfl | rfl | rfl | rfl | rfl | rfl | rfl <;> rfl))); intro w39 hw; have n0_ : ze (Kd.R (Kd.int .u64) 34 w39 w.heap.size (fun _ => True) (.slice Ao36 JY.length co36) JY) := ⟨(by rw [hw]; exact (by (with_reducible repeat (first | apply Kd.zz | apply Kd.zA | apply Kd.zF)); exact Kd.zT (Kd.R_far (p := ⟨Jg, 9, none⟩) (Kd.R_far (p := ⟨Jg, 8, none⟩) (Kd.R_far (p := ⟨Jg, 7, none⟩) (Kd.R_far (p := ⟨Jg, 6, none⟩) (Kd.R_far (p := ⟨Jg, 5, none⟩) (Kd.R_far (p := ⟨Jg, 4, none⟩) (Kd.R_far (p := ⟨Jg, 3, none⟩) (Kd.R_far (p := ⟨Jg, 2, none⟩) (Kd.R_far (p := ⟨Jg, 1, none⟩) (Kd.R_far (p := ⟨Jg, 0, none⟩) (Kd.yD Js.o Jh.o (by decide)) (fun _ hk => hk.2) (.int .i64 (wrap64 (Int.tmod (rd l0 0) 256)))) (fun _ hk => hk.2) (.int .i64 (wrap64 (Int.tmod (IntKind.u64.wrap (Int.tdiv (rd l0 0) 256)) 65536)))) (fun _ hk => hk.2) (.int .i64 (wrap64 (Int.tmod (IntKind.u64.wrap (Int.tdiv (rd l0 0) 16777216)) 4294967296)))) (fun _ hk => hk.2) (.int .u64 Jn)) (fun _ hk => hk.2) (.int .i64 Jb)) (fun _ hk => hk.2) (.int .i64 Jc)) (fun _ hk => hk.2) (.int .i64 Jd)) (fun _ hk => hk.2) (.int .i64 Je)) (fun _ hk => hk.2) (.int .i64 (wrap64 ((wrap64 (Int.tmod (rd l0 3) 65536)) - 1)))) (fun _ hk => hk.2) (.int .i64 (wrap64 ((wrap64 (Int.tmod (IntKind.u64.wrap (Int.tdiv (rd l0 3) 65536)) 65536)) - 1)))) (fun _ hk => trivial)))⟩; have n1_ : ze (w39.heap[Jg]? = some (.cells #[.int .i64 (wrap64 (Int.tmod (rd l0 0) 256)), .int .i64 (wrap64 (Int.tmod (IntKind.u64.wrap (Int.tdiv (rd l0 0) 256)) 65536)), .int .i64 (wrap64 (Int.tmod (IntKind.u64.wrap (Int.tdiv (rd l0 0) 16777216)) 4294967296)), .int .u64 Jn, .int .i64 Jb, .int .i64 Jc, .int .i64 Jd, .int .i64 Je, .int .i64 (wrap64 ((wrap64 (Int.tmod (rd l0 3) 65536)) - 1)), .int .i64 (wrap64 ((wrap64 (Int.tmod (IntKind.u64.wrap (Int.tdiv (rd l0 3) 65536)) 65536)) - 1))] 37 (0, 0))) := ⟨(by rw [hw]; exact (by (with_reducible repeat (first | refine zg ?_ _ | refine zi ?_ | refine zh ?_ _)); refine zq (cs := #[.int .i64 (wrap64 (Int.tmod (rd l0 0) 256)), .int .i64 (wrap64 (Int.tmod (IntKind.u64.wrap (Int.tdiv (rd l0 0) 256)) 65536)), .int .i64 (wrap64 (Int.tmod (IntKind.u64.wrap (Int.tdiv (rd l0 0) 16777216)) 4294967296)), .int .u64 Jn, .int .i64 Jb, .int .i64 Jc, .int .i64 Jd, .int .i64 Je, .int .i64 (wrap64 ((wrap64 (Int.tmod (rd l0 3) 65536)) - 1)), .int .i64 0]) ?_ 9 _ rfl; (with_reducible repeat (first | refine zg ?_ _ | refine zi ?_ | refine zh ?_ _)); refine zq (cs := #[.int .i64 (wrap64 (Int.tmod (rd l0 0) 256)), .int .i64 (wrap64 (Int.tmod (IntKind.u64.wrap (Int.tdiv (rd l0 0) 256)) 65536)), .int .i64 (wrap64 (Int.tmod (IntKind.u64.wrap (Int.tdiv (rd l0 0) 16777216)) 4294967296)), .int .u64 Jn, .int .i64 Jb, .int .i64 Jc, .int .i64 Jd, .int .i64 Je, .int .i64 0, .int .i64 0]) ?_ 8 _ rfl; (with_reducible repeat (first | refine zg ?_ _ | refine zi ?_ | refine zh ?_ _)); refine zq (cs := #[.int .i64 (wrap64 (Int.tmod (rd l0 0) 256)), .int .i64 (wrap64 (Int.tmod (IntKind.u64.wrap (Int.tdiv (rd l0 0) 256)) 65536)), .int .i64 (wrap64 (Int.tmod (IntKind.u64.wrap (Int.tdiv (rd l0 0) 16777216)) 4294967296)), .int .u64 Jn, .int .i64 Jb, .int .i64 Jc, .int .i64 Jd, .int .i64 0, .int .i64 0, .int .i64 0]) ?_ 7 _ rfl; (with_reducible repeat (first | refine zg ?_ _ | refine zi ?_ | refine zh ?_ _)); refine zq (cs := #[.int .i64 (wrap64 (Int.tmod (rd l0 0) 256)), .int .i64 (wrap64 (Int.tmod (IntKind.u64.wrap (Int.tdiv (rd l0 0) 256)) 65536)), .int .i64 (wrap64 (Int.tmod (IntKind.u64.wrap (Int.tdiv (rd l0 0) 16777216)) 4294967296)), .int .u64 Jn, .int .i64 Jb, .int .i64 Jc, .int .i64 0, .int .i64 0, .int .i64 0, .int .i64 0]) ?_ 6 _ rfl; (with_reducible repeat (first | refine zg ?_ _ | refine zi ?_ | refine zh ?_ _)); refine zq (cs := #[.int .i64 (wrap64 (Int.tmod (rd l0 0) 256)), .int .i64 (wrap64 (Int.tmod (IntKind.u64.wrap (Int.tdiv (rd l0 0) 256)) 65536)), .int .i64 (wrap64 (Int.tmod (IntKind.u64.wrap (Int.tdiv (rd l0 0) 16777216)) 4294967296)), .int .u64 Jn, .int .i64 Jb, .int .i64 0, .int .i64 0, .int .i64 0, .int .i64 0, .int .i64 0]) ?_ 5 _ rfl; (with_reducible repeat (first | refine zg ?_ _ | refine zi ?_ | refine zh ?_ _)); refine zq (cs := #[.int .i64 (wrap64 (Int.tmod (rd l0 0) 256)), .int .i64 (wrap64 (Int.tmod (IntKind.u64.wrap (Int.tdiv (rd l0 0) 256)) 65536)), .int .i64 (wrap64 (Int.tmod (IntKind.u64.wrap (Int.tdiv (rd l0 0) 16777216)) 4294967296)), .int .u64 Jn, .int .i64 0, .int .i64 0, .int .i64 0, .int .i64 0, .int .i64 0, .int .i64 0]) ?_ 4 _ rfl; (with_reducible repeat (first | refine zg ?_ _ | refine zi ?_ | refine zh ?_ _)); refine zq (cs := #[.int .i64 (wrap64 (Int.tmod (rd l0 0) 256)), .int .i64 (wrap64 (Int.tmod (IntKind.u64.wrap (Int.tdiv (rd l0 0) 256)) 65536)), .int .i64 (wrap64 (Int.tmod (IntKind.u64.wrap (Int.tdiv (rd l0 0) 16777216)) 4294967296)), .int .u64 0, .int .i64 0, .int .i64 0, .int .i64 0, .int .i64 0, .int .i64 0, .int .i64 0]) ?_ 3 _ rfl; (with_reducible repeat (first | refine zg ?_ _ | refine zi ?_ | refine zh ?_ _)); refine zq (cs := #[.int .i64 (wrap64 (Int.tmod (rd l0 0) 256)), .int .i64 (wrap64 (Int.tmod (IntKind.u64.wrap (Int.tdiv (rd l0 0) 256)) 65536)), .int .i64 0, .int .u64 0, .int .i64 0, .int .i64 0, .int .i64 0, .int .i64 0, .int .i64 0, .int .i64 0]) ?_ 2 _ rfl; (with_reducible repeat (first | refine zg ?_ _ | refine zi ?_ | refine zh ?_ _)); refine zq (cs := #[.int .i64 (wrap64 (Int.tmod (rd l0 0) 256)), .int .i64 0, .int .i64 0, .int .u64 0, .int .i64 0, .int .i64 0, .int .i64 0, .int .i64 0, .int .i64 0, .int .i64 0]) ?_ 1 _ rfl; (with_reducible repeat (first | refine zg ?_ _ | refine zi ?_ | refine zh ?_ _)); refine zq (cs := #[.int .i64 0, .int .i64 0, .int .i64 0, .int .u64 0, .int .i64 0, .int .i64 0, .int .i64 0, .int .i64 0, .int .i64 0, .int .i64 0]) ?_ 0 _ rfl; (with_reducible repeat (first | refine zg ?_ _ | refine zi ?_ | refine zh ?_ _)); exact Jh.o))⟩; have n2_ : ze (w39.heap[Jf]? = some (.cells #[.int .i64 (wrap64 (Int.tmod (rd l0 0) 256)), .int .i64 (wrap64 (Int.tmod (IntKind.u64.wrap (Int.tdiv (rd l0 0) 256)) 65536)), .int .i64 (wrap64 (Int.tmod (IntKind.u64.wrap (Int.tdiv (rd l0 0) 16777216)) 4294967296)), .int .u64 Jn, .int .i64 Jb, .int .i64 Jc, .int .i64 Jd, .int .i64 Je, .int .i64 (wrap64 ((wrap64 (Int.tmod (rd l0 3) 65536)) - 1)), .int .i64 (wrap64 ((wrap64 (Int.tmod (IntKind.u64.wrap (Int.tdiv (rd l0 3) 65536)) 65536)) - 1))] 37 (0, 0))) := ⟨(by rw [hw]; exact (by (with_reducible repeat (first | refine zg ?_ _ | refine zi ?_ | refine zh ?_ _)); refine zB ?_ Ji.o _; (with_reducible repeat (first | refine zg ?_ _ | refine zi ?_ | refine zh ?_ _)); refine zB ?_ Ji.o _; (with_reducible repeat (first | refine zg ?_ _ | refine zi ?_ | refine zh ?_ _)); refine zB ?_ Ji.o _; (with_reducible repeat (first | refine zg ?_ _ | refine zi ?_ | refine zh ?_ _)); refine zB ?_ Ji.o _; (with_reducible repeat (first | refine zg ?_ _ | refine zi ?_ | refine zh ?_ _)); refine zB ?_ Ji.o _; (with_reducible repeat (first | refine zg ?_ _ | refine zi ?_ | refine zh ?_ _)); refine zB ?_ Ji.o _; (with_reducible repeat (first | refine zg ?_ _ | refine zi ?_ | refine zh ?_ _)); refine zB ?_ Ji.o _; (with_reducible repeat (first | refine zg ?_ _ | refine zi ?_ | refine zh ?_ _)); refine zB ?_ Ji.o _; (with_reducible repeat (first | refine zg ?_ _ | refine zi ?_ | refine zh ?_ _)); refine zB ?_ Ji.o _; (with_reducible repeat (first | refine zg ?_ _ | refine zi ?_ | refine zh ?_ _)); refine zB ?_ Ji.o _; (with_reducible repeat (first | refine zg ?_ _ | refine zi ?_ | refine zh ?_ _)); exact Ja.o))⟩; have n3_ : ze (Below w.heap.size w w39) := ⟨(by rw [hw]; exact (by repeat (first | (with_reducible first | exact HB.o | apply zl | apply zf | apply zk | refine zm ?_ Jq.o | refine zm ?_ Jt.o) | exact HB.o)))⟩; clear hw; clear Js; clear Jh; clear Ja; clear HB; have Js := n0_; have Jh := n1_; have Ja := n2_; have HB := n3_; clear n0_ n1_ n2_ n3_))
           refine bodyPost_ret (yE rfl _ _ Jg 37 #[.int .i64 (wrap64 (Int.tmod (rd l0 0) 256)), .int .i64 (wrap64 (Int.tmod (IntKind.u64.wrap (Int.tdiv (rd l0 0) 256)) 65536)), .int .i64 (wrap64 (Int.tmod (IntKind.u64.wrap (Int.tdiv (rd l0 0) 16777216)) 4294967296)), .int .u64 Jn, .int .i64 Jb, .int .i64 Jc, .int .i64 Jd, .int .i64 Je, .int .i64 (wrap64 ((wrap64 (Int.tmod (rd l0 3) 65536)) - 1)), .int .i64 (wrap64 ((wrap64 (Int.tmod (IntKind.u64.wrap (Int.tdiv (rd l0 3) 65536)) 65536)) - 1))] (0, 0) _ rfl (by (with_reducible repeat (first | refine zg ?_ _ | refine zi ?_ | refine zh ?_ _)); exact Jh.o) Tryz.underlying37 rfl (by kernel_rfl)) rfl ?_
           exact ⟨by first | rfl | (simp [zy, zx] <;> rfl) | (simp [*, zy, zx] <;> rfl), by repeat (first | (with_reducible first | exact HB.o | apply zl | apply zf | apply zk | refine zm ?_ Jq.o | refine zm ?_ Jt.o) | exact HB.o)⟩
          ·replace c32 := Bool.eq_false_iff.mpr c32
           subst c32
           have H1 : (some (0, 0, 0, 0, 0, 0, 0, 0, 0, 0, 15)) = some (r1, r2, r3, r4, r5, r6, r7, r8, r9, r10, r11) := by rw [if_neg (show ¬ (false = true) by decide)] at H; exact H
           clear H
           have H := H1
           clear H1
           simp only [Option.some.injEq, Prod.mk.injEq] at H
           obtain ⟨rfl, rfl, rfl, rfl, rfl, rfl, rfl, rfl, rfl, rfl, rfl⟩ := H
           have J9 : 0 ≤ (3 : Int) := (by omega)
           have J7 : 3 < (l0.length : Int) := of_decide_eq_true (by first | (with_reducible assumption) | assumption)
           obtain ⟨Gc, e271, Jm⟩ := Kd.zX HR0.o 3 J9 J7
           obtain rfl : Jw = Gc := (by injection e271)
           (try simp only [show (3 : Int).toNat = 3 from rfl, Nat.reduceMul, Nat.reduceEqDiff, Go.Addr.add, ↓reduceIte] at Jm)
           have Dp : (3 < l0.length) = True := eq_true (by omega)
           (try rw [show ((3 : Int)).toNat = 3 from rfl] at Jm)
           replace Jm := (HB.o.cell (World.block_lt_of_cell? w _ Jm)).trans Jm
           replace J9 := eq_true J9
           replace J7 := eq_true J7
           have hnb40 := Ji.o
           have hnc40 := Jj.o
           have Jb3 : wr.cell? ⟨Jf, 0, none⟩ = some (.int .i64 (wrap64 (Int.tmod (rd l0 0) 256))) := (zb Ja.o 0).trans rfl
           have Jb2 : wr.cell? ⟨Jf, 1, none⟩ = some (.int .i64 (wrap64 (Int.tmod (IntKind.u64.wrap (Int.tdiv (rd l0 0) 256)) 65536))) := (zb Ja.o 1).trans rfl
           have Jb1 : wr.cell? ⟨Jf, 2, none⟩ = some (.int .i64 (wrap64 (Int.tmod (IntKind.u64.wrap (Int.tdiv (rd l0 0) 16777216)) 4294967296))) := (zb Ja.o 2).trans rfl
           have Jb0 : wr.cell? ⟨Jf, 3, none⟩ = some (.int .u64 Jn) := (zb Ja.o 3).trans rfl
           have JbZ : wr.cell? ⟨Jf, 4, none⟩ = some (.int .i64 Jb) := (zb Ja.o 4).trans rfl
           have JbY : wr.cell? ⟨Jf, 5, none⟩ = some (.int .i64 Jc) := (zb Ja.o 5).trans rfl
           have JbX : wr.cell? ⟨Jf, 6, none⟩ = some (.int .i64 Jd) := (zb Ja.o 6).trans rfl
           have JbW : wr.cell? ⟨Jf, 7, none⟩ = some (.int .i64 Je) := (zb Ja.o 7).trans rfl
           have JbV : wr.cell? ⟨Jf, 8, none⟩ = some (.int .i64 Jk) := (zb Ja.o 8).trans rfl
           have JbU : wr.cell? ⟨Jf, 9, none⟩ = some (.int .i64 Jy) := (zb Ja.o 9).trans rfl
           have BV := za Ja.o 0
           have BU := za Ja.o 1
           have BS := za Ja.o 2
           have BR := za Ja.o 3
           have BQ := za Ja.o 4
           have BP := za Ja.o 5
           have BO := za Ja.o 6
           have BM := za Ja.o 7
           have BL := za Ja.o 8
           have BJ := za Ja.o 9
           have J8 : 0 ≤ (3 : Int) := (by omega)
           have J6 : 3 < (l0.length : Int) := of_decide_eq_true (by first | (with_reducible assumption) | assumption)
           obtain ⟨Gb, e272, Jl⟩ := Kd.zX HR0.o 3 J8 J6
           obtain rfl : Jw = Gb := (by injection e272)
           (try simp only [show (3 : Int).toNat = 3 from rfl, Nat.reduceMul, Nat.reduceEqDiff, Go.Addr.add, ↓reduceIte] at Jl)
           have Dn : (3 < l0.length) = True := eq_true (by omega)
           (try rw [show ((3 : Int)).toNat = 3 from rfl] at Jl)
           have Jp : (Jw : Addr).block ≠ Jf := Nat.ne_of_lt (Nat.lt_of_lt_of_le (by have := World.block_lt_of_cell? _ _ Jl; first | rwa [add_block] at this | exact this) JS.o)
           replace Jl := (HB.o.cell (World.block_lt_of_cell? w _ Jl)).trans Jl
           replace Jl := (cell_far (p := ⟨Jf, 8, none⟩) (by first | (rw [add_block]; exact Jp) | (show (Addr.add _ _).block ≠ _; rw [add_block]; exact Jp) | exact Jp) (.int .i64 (wrap64 ((wrap64 (Int.tmod (rd l0 3) 65536)) - 1)))).trans Jl
           clear Jp
           replace J8 := eq_true J8
           replace J6 := eq_true J6
           go_wp2_with (first | ((with_reducible refine zN (f := 56) rfl ?_); refine yh (some 71) rfl rfl Tryz.func56 (by kernel_rfl) rfl #[.agg #[.int .i64 (wrap64 (Int.tmod (rd l0 0) 256)), .int .i64 (wrap64 (Int.tmod (IntKind.u64.wrap (Int.tdiv (rd l0 0) 256)) 65536)), .int .i64 (wrap64 (Int.tmod (IntKind.u64.wrap (Int.tdiv (rd l0 0) 16777216)) 4294967296)), .int .u64 Jn, .int .i64 Jb, .int .i64 Jc, .int .i64 Jd, .int .i64 Je, .int .i64 (wrap64 ((wrap64 (Int.tmod (rd l0 3) 65536)) - 1)), .int .i64 (wrap64 ((wrap64 (Int.tmod (IntKind.u64.wrap (Int.tdiv (rd l0 3) 65536)) 65536)) - 1))]] rfl (by (try simp only [List.map_toArray, List.map_cons, List.map_nil]); first | done | rfl | (simp only [List.length_drop, List.length_take]; rfl)) ?_; (with_reducible refine (escritoireref06_Write.calls k1 (wrap64 (Int.tmod (rd l0 0) 256)) (wrap64 (Int.tmod (IntKind.u64.wrap (Int.tdiv (rd l0 0) 256)) 65536)) (wrap64 (Int.tmod (IntKind.u64.wrap (Int.tdiv (rd l0 0) 16777216)) 4294967296)) Jn Jb Jc Jd Je (wrap64 ((wrap64 (Int.tmod (rd l0 3) 65536)) - 1)) (wrap64 ((wrap64 (Int.tmod (IntKind.u64.wrap (Int.tdiv (rd l0 3) 65536)) 65536)) - 1)) JY Gd _ A29.o).mono ?_); rintro e w42 ⟨DI, rfl, ho0, hb⟩; refine ⟨_, rfl, ?_⟩; have n0_ := ze.mk (Kd.yf ho0 (zt (by repeat (first | (with_reducible first | exact HB.o | apply zl | apply zf | apply zk | refine zm ?_ Jq.o | refine zm ?_ Jt.o) | exact HB.o)))); have n1_ := ze.mk (zK (g := Jg) (o := .cells #[.int .i64 0, .int .i64 0, .int .i64 0, .int .u64 0, .int .i64 0, .int .i64 0, .int .i64 0, .int .i64 0, .int .i64 0, .int .i64 0] 37 (0, 0)) (by (with_reducible repeat (first | refine zg ?_ _ | refine zi ?_ | refine zh ?_ _)); refine zB ?_ Jj.o _; (with_reducible repeat (first | refine zg ?_ _ | refine zi ?_ | refine zh ?_ _)); refine zB ?_ Jj.o _; (with_reducible repeat (first | refine zg ?_ _ | refine zi ?_ | refine zh ?_ _)); exact Jh.o) hb); have n2_ := ze.mk (zK (g := Jf) (o := .cells #[.int .i64 (wrap64 (Int.tmod (rd l0 0) 256)), .int .i64 (wrap64 (Int.tmod (IntKind.u64.wrap (Int.tdiv (rd l0 0) 256)) 65536)), .int .i64 (wrap64 (Int.tmod (IntKind.u64.wrap (Int.tdiv (rd l0 0) 16777216)) 4294967296)), .int .u64 Jn, .int .i64 Jb, .int .i64 Jc, .int .i64 Jd, .int .i64 Je, .int .i64 (wrap64 ((wrap64 (Int.tmod (rd l0 3) 65536)) - 1)), .int .i64 (wrap64 ((wrap64 (Int.tmod (IntKind.u64.wrap (Int.tdiv (rd l0 3) 65536)) 65536)) - 1))] 37 (0, 0)) (by (with_reducible repeat (first | refine zg ?_ _ | refine zi ?_ | refine zh ?_ _)); refine zq (cs := #[.int .i64 (wrap64 (Int.tmod (rd l0 0) 256)), .int .i64 (wrap64 (Int.tmod (IntKind.u64.wrap (Int.tdiv (rd l0 0) 256)) 65536)), .int .i64 (wrap64 (Int.tmod (IntKind.u64.wrap (Int.tdiv (rd l0 0) 16777216)) 4294967296)), .int .u64 Jn, .int .i64 Jb, .int .i64 Jc, .int .i64 Jd, .int .i64 Je, .int .i64 (wrap64 ((wrap64 (Int.tmod (rd l0 3) 65536)) - 1)), .int .i64 Jy]) ?_ 9 _ rfl; (with_reducible repeat (first | refine zg ?_ _ | refine zi ?_ | refine zh ?_ _)); refine zq (cs := #[.int .i64 (wrap64 (Int.tmod (rd l0 0) 256)), .int .i64 (wrap64 (Int.tmod (IntKind.u64.wrap (Int.tdiv (rd l0 0) 256)) 65536)), .int .i64 (wrap64 (Int.tmod (IntKind.u64.wrap (Int.tdiv (rd l0 0) 16777216)) 4294967296)), .int .u64 Jn, .int .i64 Jb, .int .i64 Jc, .int .i64 Jd, .int .i64 Je, .int .i64 Jk, .int .i64 Jy]) ?_ 8 _ rfl; (with_reducible repeat (first | refine zg ?_ _ | refine zi ?_ | refine zh ?_ _)); exact Ja.o) hb); have n3_ := ze.mk (zu (by repeat (first | (with_reducible first | exact HB.o | apply zl | apply zf | apply zk | refine zm ?_ Jq.o | refine zm ?_ Jt.o) | exact HB.o)) hb); clear Jh; clear Ja; clear HB; have Js := n0_; have Jh := n1_; have Ja := n2_; have HB := n3_; clear n0_ n1_ n2_ n3_; (try clear hb); (try clear hb2); (try clear hk); (try clear hi); (try clear ho0); obtain ⟨Ao43, co43, eo43⟩ := Kd.yc Js.o; subst eo43) | (go_at_call 30; (with_reducible refine (escritoireref01_Same.calls k1 _ _ JY _ _ l0 false _ ?Gi ?Gh ?Gg ?Gf A31.o).mono ?_); (case Gi => repeat (first | exact (Kd.zQ Js.o).2.2 | (with_reducible refine Kd.ZT ?_ _) | (with_reducible refine Kd.ZR ?_ _) | (with_reducible refine Kd.YL ?_))); (case Gh => exact (Kd.zQ Js.o).2.1); (case Gg => repeat (first | exact (Kd.zZ HR0.o HB.o) | (with_reducible refine Kd.ZT ?_ _) | (with_reducible refine Kd.ZR ?_ _) | (with_reducible refine Kd.YL ?_))); (case Gf => exact HC0.o); rintro e w' ⟨rfl, ⟨nd, rfl⟩⟩; (try (rw [zW w42]; generalize hq_ : World.drewN w42 _ = w42; have n0_ : ze (Kd.R (Kd.int .u64) 34 w42 w.heap.size (fun _ => True) (.slice Ao43 JY.length co43) JY) := ⟨by rw [← hq_]; exact (by (with_reducible repeat (first | apply Kd.zz | apply Kd.zA | apply Kd.zF)); exact Js.o)⟩; have n1_ : ze (w42.heap[Jg]? = some (.cells #[.int .i64 0, .int .i64 0, .int .i64 0, .int .u64 0, .int .i64 0, .int .i64 0, .int .i64 0, .int .i64 0, .int .i64 0, .int .i64 0] 37 (0, 0))) := ⟨by rw [← hq_]; exact (by (with_reducible repeat (first | refine zg ?_ _ | refine zi ?_ | refine zh ?_ _)); exact Jh.o)⟩; have n2_ : ze (w42.heap[Jf]? = some (.cells #[.int .i64 (wrap64 (Int.tmod (rd l0 0) 256)), .int .i64 (wrap64 (Int.tmod (IntKind.u64.wrap (Int.tdiv (rd l0 0) 256)) 65536)), .int .i64 (wrap64 (Int.tmod (IntKind.u64.wrap (Int.tdiv (rd l0 0) 16777216)) 4294967296)), .int .u64 Jn, .int .i64 Jb, .int .i64 Jc, .int .i64 Jd, .int .i64 Je, .int .i64 (wrap64 ((wrap64 (Int.tmod (rd l0 3) 65536)) - 1)), .int .i64 (wrap64 ((wrap64 (Int.tmod (IntKind.u64.wrap (Int.tdiv (rd l0 3) 65536)) 65536)) - 1))] 37 (0, 0))) := ⟨by rw [← hq_]; exact (by (with_reducible repeat (first | refine zg ?_ _ | refine zi ?_ | refine zh ?_ _)); exact Ja.o)⟩; have n3_ : ze (Below w.heap.size w w42) := ⟨by rw [← hq_]; exact (by repeat (first | (with_reducible first | exact HB.o | apply zl | apply zf | apply zk | refine zm ?_ Jq.o | refine zm ?_ Jt.o) | exact HB.o))⟩; clear Js Jh Ja HB hq_; have Js := n0_; have Jh := n1_; have Ja := n2_; have HB := n3_; clear n0_ n1_ n2_ n3_)); have JbT : w42.cell? ⟨Jg, 0, none⟩ = some (.int .i64 0) := (zb Jh.o 0).trans rfl; have JbS : w42.cell? ⟨Jg, 1, none⟩ = some (.int .i64 0) := (zb Jh.o 1).trans rfl; have JbR : w42.cell? ⟨Jg, 2, none⟩ = some (.int .i64 0) := (zb Jh.o 2).trans rfl; have JbQ : w42.cell? ⟨Jg, 3, none⟩ = some (.int .u64 0) := (zb Jh.o 3).trans rfl; have JbP : w42.cell? ⟨Jg, 4, none⟩ = some (.int .i64 0) := (zb Jh.o 4).trans rfl; have JbO : w42.cell? ⟨Jg, 5, none⟩ = some (.int .i64 0) := (zb Jh.o 5).trans rfl; have JbN : w42.cell? ⟨Jg, 6, none⟩ = some (.int .i64 0) := (zb Jh.o 6).trans rfl; have JbM : w42.cell? ⟨Jg, 7, none⟩ = some (.int .i64 0) := (zb Jh.o 7).trans rfl; have JbL : w42.cell? ⟨Jg, 8, none⟩ = some (.int .i64 0) := (zb Jh.o 8).trans rfl; have JbK : w42.cell? ⟨Jg, 9, none⟩ = some (.int .i64 0) := (zb Jh.o 9).trans rfl; have BI := za Jh.o 0; have BH := za Jh.o 1; have BG := za Jh.o 2; have BF := za Jh.o 3; have BD := za Jh.o 4; have BC := za Jh.o 5; have BA := za Jh.o 6; have Bz := za Jh.o 7; have Bw := za Jh.o 8; have Bv := za Jh.o 9) | ((with_reducible refine zJ (t := 37) (p := 2) rfl ?_); refine zH (t := 37) (p := 2) (v := ?vo_w45) (w1 := ((((((((((w42.setCell ⟨Jg, 0, none⟩ (.int .i64 0)).setCell ⟨Jg, 1, none⟩ (.int .i64 0)).setCell ⟨Jg, 2, none⟩ (.int .i64 0)).setCell ⟨Jg, 3, none⟩ (.int .u64 0)).setCell ⟨Jg, 4, none⟩ (.int .i64 0)).setCell ⟨Jg, 5, none⟩ (.int .i64 0)).setCell ⟨Jg, 6, none⟩ (.int .i64 0)).setCell ⟨Jg, 7, none⟩ (.int .i64 0)).setCell ⟨Jg, 8, none⟩ (.int .i64 0)).setCell ⟨Jg, 9, none⟩ (.int .i64 0))) ?hg ?ho ?hn ?hr ?_; (case ho => rfl); (case hg => rfl); (case hn => rfl); (case hr => exact zM rfl rfl rfl (zP (P := Tryz.prog) (o := 0) (cur := #[.int .i64 0, .int .i64 0, .int .i64 0, .int .u64 0, .int .i64 0, .int .i64 0, .int .i64 0, .int .i64 0, .int .i64 0, .int .i64 0]) 37 (.agg #[.int .i64 0, .int .i64 0, .int .i64 0, .int .u64 0, .int .i64 0, .int .i64 0, .int .i64 0, .int .i64 0, .int .i64 0, .int .i64 0]) [.int .i64 0, .int .i64 0, .int .i64 0, .int .u64 0, .int .i64 0, .int .i64 0, .int .i64 0, .int .i64 0, .int .i64 0, .int .i64 0] (show _ = some (Obj.cells #[.int .i64 0, .int .i64 0, .int .i64 0, .int .u64 0, .int .i64 0, .int .i64 0, .int .i64 0, .int .i64 0, .int .i64 0, .int .i64 0] 37 (0, 0)) from (by (with_reducible repeat (first | refine zg ?_ _ | refine zi ?_ | refine zh ?_ _)); exact Jh.o)) rfl (by kernel_rfl) (show 10 ≤ 10 by decide) (by intro q_ hq_; simp only [List.mem_cons, List.not_mem_nil, or_false] at hq_; rcases hq_ with rfl | rfl | rfl | rfl | rfl | rfl | rfl | rfl | rfl | rfl <;> rfl))); intro w45 hw; have n0_ : ze (Kd.R (Kd.int .u64) 34 w45 w.heap.size (fun _ => True) (.slice Ao43 JY.length co43) JY) := ⟨(by rw [hw]; exact (by (with_reducible repeat (first | apply Kd.zz | apply Kd.zA | apply Kd.zF)); exact Kd.zT (Kd.R_far (p := ⟨Jg, 9, none⟩) (Kd.R_far (p := ⟨Jg, 8, none⟩) (Kd.R_far (p := ⟨Jg, 7, none⟩) (Kd.R_far (p := ⟨Jg, 6, none⟩) (Kd.R_far (p := ⟨Jg, 5, none⟩) (Kd.R_far (p := ⟨Jg, 4, none⟩) (Kd.R_far (p := ⟨Jg, 3, none⟩) (Kd.R_far (p := ⟨Jg, 2, none⟩) (Kd.R_far (p := ⟨Jg, 1, none⟩) (Kd.R_far (p := ⟨Jg, 0, none⟩) (Kd.yD Js.o Jh.o (by decide)) (fun _ hk => hk.2) (.int .i64 0)) (fun _ hk => hk.2) (.int .i64 0)) (fun _ hk => hk.2) (.int .i64 0)) (fun _ hk => hk.2) (.int .u64 0)) (fun _ hk => hk.2) (.int .i64 0)) (fun _ hk => hk.2) (.int .i64 0)) (fun _ hk => hk.2) (.int .i64 0)) (fun _ hk => hk.2) (.int .i64 0)) (fun _ hk => hk.2) (.int .i64 0)) (fun _ hk => hk.2) (.int .i64 0)) (fun _ hk => trivial)))⟩; have n1_ : ze (w45.heap[Jg]? = some (.cells #[.int .i64 0, .int .i64 0, .int .i64 0, .int .u64 0, .int .i64 0, .int .i64 0, .int .i64 0, .int .i64 0, .int .i64 0, .int .i64 0] 37 (0, 0))) := ⟨(by rw [hw]; exact (by (with_reducible repeat (first | refine zg ?_ _ | refine zi ?_ | refine zh ?_ _)); refine zq (cs := #[.int .i64 0, .int .i64 0, .int .i64 0, .int .u64 0, .int .i64 0, .int .i64 0, .int .i64 0, .int .i64 0, .int .i64 0, .int .i64 0]) ?_ 9 _ rfl; (with_reducible repeat (first | refine zg ?_ _ | refine zi ?_ | refine zh ?_ _)); refine zq (cs := #[.int .i64 0, .int .i64 0, .int .i64 0, .int .u64 0, .int .i64 0, .int .i64 0, .int .i64 0, .int .i64 0, .int .i64 0, .int .i64 0]) ?_ 8 _ rfl; (with_reducible repeat (first | refine zg ?_ _ | refine zi ?_ | refine zh ?_ _)); refine zq (cs := #[.int .i64 0, .int .i64 0, .int .i64 0, .int .u64 0, .int .i64 0, .int .i64 0, .int .i64 0, .int .i64 0, .int .i64 0, .int .i64 0]) ?_ 7 _ rfl; (with_reducible repeat (first | refine zg ?_ _ | refine zi ?_ | refine zh ?_ _)); refine zq (cs := #[.int .i64 0, .int .i64 0, .int .i64 0, .int .u64 0, .int .i64 0, .int .i64 0, .int .i64 0, .int .i64 0, .int .i64 0, .int .i64 0]) ?_ 6 _ rfl; (with_reducible repeat (first | refine zg ?_ _ | refine zi ?_ | refine zh ?_ _)); refine zq (cs := #[.int .i64 0, .int .i64 0, .int .i64 0, .int .u64 0, .int .i64 0, .int .i64 0, .int .i64 0, .int .i64 0, .int .i64 0, .int .i64 0]) ?_ 5 _ rfl; (with_reducible repeat (first | refine zg ?_ _ | refine zi ?_ | refine zh ?_ _)); refine zq (cs := #[.int .i64 0, .int .i64 0, .int .i64 0, .int .u64 0, .int .i64 0, .int .i64 0, .int .i64 0, .int .i64 0, .int .i64 0, .int .i64 0]) ?_ 4 _ rfl; (with_reducible repeat (first | refine zg ?_ _ | refine zi ?_ | refine zh ?_ _)); refine zq (cs := #[.int .i64 0, .int .i64 0, .int .i64 0, .int .u64 0, .int .i64 0, .int .i64 0, .int .i64 0, .int .i64 0, .int .i64 0, .int .i64 0]) ?_ 3 _ rfl; (with_reducible repeat (first | refine zg ?_ _ | refine zi ?_ | refine zh ?_ _)); refine zq (cs := #[.int .i64 0, .int .i64 0, .int .i64 0, .int .u64 0, .int .i64 0, .int .i64 0, .int .i64 0, .int .i64 0, .int .i64 0, .int .i64 0]) ?_ 2 _ rfl; (with_reducible repeat (first | refine zg ?_ _ | refine zi ?_ | refine zh ?_ _)); refine zq (cs := #[.int .i64 0, .int .i64 0, .int .i64 0, .int .u64 0, .int .i64 0, .int .i64 0, .int .i64 0, .int .i64 0, .int .i64 0, .int .i64 0]) ?_ 1 _ rfl; (with_reducible repeat (first | refine zg ?_ _ | refine zi ?_ | refine zh ?_ _)); refine zq (cs := #[.int .i64 0, .int .i64 0, .int .i64 0, .int .u64 0, .int .i64 0, .int .i64 0, .int .i64 0, .int .i64 0, .int .i64 0, .int .i64 0]) ?_ 0 _ rfl; (with_reducible repeat (first | refine zg ?_ _ | refine zi ?_ | refine zh ?_ _)); exact Jh.o))⟩; have n2_ : ze (w45.heap[Jf]? = some (.cells #[.int .i64 (wrap64 (Int.tmod (rd l0 0) 256)), .int .i64 (wrap64 (Int.tmod (IntKind.u64.wrap (Int.tdiv (rd l0 0) 256)) 65536)), .int .i64 (wrap64 (Int.tmod (IntKind.u64.wrap (Int.tdiv (rd l0 0) 16777216)) 4294967296)), .int .u64 Jn, .int .i64 Jb, .int .i64 Jc, .int .i64 Jd, .int .i64 Je, .int .i64 (wrap64 ((wrap64 (Int.tmod (rd l0 3) 65536)) - 1)), .int .i64 (wrap64 ((wrap64 (Int.tmod (IntKind.u64.wrap (Int.tdiv (rd l0 3) 65536)) 65536)) - 1))] 37 (0, 0))) := ⟨(by rw [hw]; exact (by (with_reducible repeat (first | refine zg ?_ _ | refine zi ?_ | refine zh ?_ _)); refine zB ?_ Ji.o _; (with_reducible repeat (first | refine zg ?_ _ | refine zi ?_ | refine zh ?_ _)); refine zB ?_ Ji.o _; (with_reducible repeat (first | refine zg ?_ _ | refine zi ?_ | refine zh ?_ _)); refine zB ?_ Ji.o _; (with_reducible repeat (first | refine zg ?_ _ | refine zi ?_ | refine zh ?_ _)); refine zB ?_ Ji.o _; (with_reducible repeat (first | refine zg ?_ _ | refine zi ?_ | refine zh ?_ _)); refine zB ?_ Ji.o _; (with_reducible repeat (first | refine zg ?_ _ | refine zi ?_ | refine zh ?_ _)); refine zB ?_ Ji.o _; (with_reducible repeat (first | refine zg ?_ _ | refine zi ?_ | refine zh ?_ _)); refine zB ?_ Ji.o _; (with_reducible repeat (first | refine zg ?_ _ | refine zi ?_ | refine zh ?_ _)); refine zB ?_ Ji.o _; (with_reducible repeat (first | refine zg ?_ _ | refine zi ?_ | refine zh ?_ _)); refine zB ?_ Ji.o _; (with_reducible repeat (first | refine zg ?_ _ | refine zi ?_ | refine zh ?_ _)); refine zB ?_ Ji.o _; (with_reducible repeat (first | refine zg ?_ _ | refine zi ?_ | refine zh ?_ _)); exact Ja.o))⟩; have n3_ : ze (Below w.heap.size w w45) := ⟨(by rw [hw]; exact (by repeat (first | (with_reducible first | exact HB.o | apply zl | apply zf | apply zk | refine zm ?_ Jq.o | refine zm ?_ Jt.o) | exact HB.o)))⟩; clear hw; clear Js; clear Jh; clear Ja; clear HB; have Js := n0_; have Jh := n1_; have Ja := n2_; have HB := n3_; clear n0_ n1_ n2_ n3_))
           refine bodyPost_ret (yE rfl _ _ Jg 37 #[.int .i64 0, .int .i64 0, .int .i64 0, .int .u64 0, .int .i64 0, .int .i64 0, .int .i64 0, .int .i64 0, .int .i64 0, .int .i64 0] (0, 0) _ rfl (by (with_reducible repeat (first | refine zg ?_ _ | refine zi ?_ | refine zh ?_ _)); exact Jh.o) Tryz.underlying37 rfl (by kernel_rfl)) rfl ?_
           exact ⟨by first | rfl | (simp [zy, zx] <;> rfl) | (simp [*, zy, zx] <;> rfl), by repeat (first | (with_reducible first | exact HB.o | apply zl | apply zf | apply zk | refine zm ?_ Jq.o | refine zm ?_ Jt.o) | exact HB.o)⟩
         ·rw [if_neg c30] at H
          have Jdg : (Gd == 0) = false := beq_eq_false_iff_ne.mpr c30
          have Jdf : (Gd != 0) = true := bne_iff_ne.mpr c30
          simp only [Option.some.injEq, Prod.mk.injEq] at H
          obtain ⟨rfl, rfl, rfl, rfl, rfl, rfl, rfl, rfl, rfl, rfl, rfl⟩ := H
          have J9 : 0 ≤ (3 : Int) := (by omega)
          have J7 : 3 < (l0.length : Int) := of_decide_eq_true (by first | (with_reducible assumption) | assumption)
          obtain ⟨Gc, e271, Jm⟩ := Kd.zX HR0.o 3 J9 J7
          obtain rfl : Jw = Gc := (by injection e271)
          (try simp only [show (3 : Int).toNat = 3 from rfl, Nat.reduceMul, Nat.reduceEqDiff, Go.Addr.add, ↓reduceIte] at Jm)
          have Dp : (3 < l0.length) = True := eq_true (by omega)
          (try rw [show ((3 : Int)).toNat = 3 from rfl] at Jm)
          replace Jm := (HB.o.cell (World.block_lt_of_cell? w _ Jm)).trans Jm
          replace J9 := eq_true J9
          replace J7 := eq_true J7
          have hnb46 := Ji.o
          have hnc46 := Jj.o
          have JbJ : wr.cell? ⟨Jf, 0, none⟩ = some (.int .i64 (wrap64 (Int.tmod (rd l0 0) 256))) := (zb Ja.o 0).trans rfl
          have JbI : wr.cell? ⟨Jf, 1, none⟩ = some (.int .i64 (wrap64 (Int.tmod (IntKind.u64.wrap (Int.tdiv (rd l0 0) 256)) 65536))) := (zb Ja.o 1).trans rfl
          have JbH : wr.cell? ⟨Jf, 2, none⟩ = some (.int .i64 (wrap64 (Int.tmod (IntKind.u64.wrap (Int.tdiv (rd l0 0) 16777216)) 4294967296))) := (zb Ja.o 2).trans rfl
          have JbG : wr.cell? ⟨Jf, 3, none⟩ = some (.int .u64 Jn) := (zb Ja.o 3).trans rfl
          have JbF : wr.cell? ⟨Jf, 4, none⟩ = some (.int .i64 Jb) := (zb Ja.o 4).trans rfl
          have JbE : wr.cell? ⟨Jf, 5, none⟩ = some (.int .i64 Jc) := (zb Ja.o 5).trans rfl
          have JbD : wr.cell? ⟨Jf, 6, none⟩ = some (.int .i64 Jd) := (zb Ja.o 6).trans rfl
          have JbC : wr.cell? ⟨Jf, 7, none⟩ = some (.int .i64 Je) := (zb Ja.o 7).trans rfl
          have JbB : wr.cell? ⟨Jf, 8, none⟩ = some (.int .i64 Jk) := (zb Ja.o 8).trans rfl
          have JbA : wr.cell? ⟨Jf, 9, none⟩ = some (.int .i64 Jy) := (zb Ja.o 9).trans rfl
          have Bu := za Ja.o 0
          have Bt := za Ja.o 1
          have Br := za Ja.o 2
          have Bq := za Ja.o 3
          have Bp := za Ja.o 4
          have Bo := za Ja.o 5
          have Bn := za Ja.o 6
          have Bl := za Ja.o 7
          have Bj := za Ja.o 8
          have Bi := za Ja.o 9
          have J8 : 0 ≤ (3 : Int) := (by omega)
          have J6 : 3 < (l0.length : Int) := of_decide_eq_true (by first | (with_reducible assumption) | assumption)
          obtain ⟨Gb, e272, Jl⟩ := Kd.zX HR0.o 3 J8 J6
          obtain rfl : Jw = Gb := (by injection e272)
          (try simp only [show (3 : Int).toNat = 3 from rfl, Nat.reduceMul, Nat.reduceEqDiff, Go.Addr.add, ↓reduceIte] at Jl)
          have Dn : (3 < l0.length) = True := eq_true (by omega)
          (try rw [show ((3 : Int)).toNat = 3 from rfl] at Jl)
          have Jp : (Jw : Addr).block ≠ Jf := Nat.ne_of_lt (Nat.lt_of_lt_of_le (by have := World.block_lt_of_cell? _ _ Jl; first | rwa [add_block] at this | exact this) JS.o)
          replace Jl := (HB.o.cell (World.block_lt_of_cell? w _ Jl)).trans Jl
          replace Jl := (cell_far (p := ⟨Jf, 8, none⟩) (by first | (rw [add_block]; exact Jp) | (show (Addr.add _ _).block ≠ _; rw [add_block]; exact Jp) | exact Jp) (.int .i64 (wrap64 ((wrap64 (Int.tmod (rd l0 3) 65536)) - 1)))).trans Jl
          clear Jp
          replace J8 := eq_true J8
          replace J6 := eq_true J6
          go_wp2_with (first | ((with_reducible refine zN (f := 56) rfl ?_); refine yh (some 71) rfl rfl Tryz.func56 (by kernel_rfl) rfl #[.agg #[.int .i64 (wrap64 (Int.tmod (rd l0 0) 256)), .int .i64 (wrap64 (Int.tmod (IntKind.u64.wrap (Int.tdiv (rd l0 0) 256)) 65536)), .int .i64 (wrap64 (Int.tmod (IntKind.u64.wrap (Int.tdiv (rd l0 0) 16777216)) 4294967296)), .int .u64 Jn, .int .i64 Jb, .int .i64 Jc, .int .i64 Jd, .int .i64 Je, .int .i64 (wrap64 ((wrap64 (Int.tmod (rd l0 3) 65536)) - 1)), .int .i64 (wrap64 ((wrap64 (Int.tmod (IntKind.u64.wrap (Int.tdiv (rd l0 3) 65536)) 65536)) - 1))]] rfl (by (try simp only [List.map_toArray, List.map_cons, List.map_nil]); first | done | rfl | (simp only [List.length_drop, List.length_take]; rfl)) ?_; (with_reducible refine (escritoireref06_Write.calls k1 (wrap64 (Int.tmod (rd l0 0) 256)) (wrap64 (Int.tmod (IntKind.u64.wrap (Int.tdiv (rd l0 0) 256)) 65536)) (wrap64 (Int.tmod (IntKind.u64.wrap (Int.tdiv (rd l0 0) 16777216)) 4294967296)) Jn Jb Jc Jd Je (wrap64 ((wrap64 (Int.tmod (rd l0 3) 65536)) - 1)) (wrap64 ((wrap64 (Int.tmod (IntKind.u64.wrap (Int.tdiv (rd l0 3) 65536)) 65536)) - 1)) JY Gd _ A29.o).mono ?_); rintro e w48 ⟨DI, rfl, ho0, hb⟩; refine ⟨_, rfl, ?_⟩; have n0_ := ze.mk (Kd.yf ho0 (zt (by repeat (first | (with_reducible first | exact HB.o | apply zl | apply zf | apply zk | refine zm ?_ Jq.o | refine zm ?_ Jt.o) | exact HB.o)))); have n1_ := ze.mk (zK (g := Jg) (o := .cells #[.int .i64 0, .int .i64 0, .int .i64 0, .int .u64 0, .int .i64 0, .int .i64 0, .int .i64 0, .int .i64 0, .int .i64 0, .int .i64 0] 37 (0, 0)) (by (with_reducible repeat (first | refine zg ?_ _ | refine zi ?_ | refine zh ?_ _)); refine zB ?_ Jj.o _; (with_reducible repeat (first | refine zg ?_ _ | refine zi ?_ | refine zh ?_ _)); refine zB ?_ Jj.o _; (with_reducible repeat (first | refine zg ?_ _ | refine zi ?_ | refine zh ?_ _)); exact Jh.o) hb); have n2_ := ze.mk (zK (g := Jf) (o := .cells #[.int .i64 (wrap64 (Int.tmod (rd l0 0) 256)), .int .i64 (wrap64 (Int.tmod (IntKind.u64.wrap (Int.tdiv (rd l0 0) 256)) 65536)), .int .i64 (wrap64 (Int.tmod (IntKind.u64.wrap (Int.tdiv (rd l0 0) 16777216)) 4294967296)), .int .u64 Jn, .int .i64 Jb, .int .i64 Jc, .int .i64 Jd, .int .i64 Je, .int .i64 (wrap64 ((wrap64 (Int.tmod (rd l0 3) 65536)) - 1)), .int .i64 (wrap64 ((wrap64 (Int.tmod (IntKind.u64.wrap (Int.tdiv (rd l0 3) 65536)) 65536)) - 1))] 37 (0, 0)) (by (with_reducible repeat (first | refine zg ?_ _ | refine zi ?_ | refine zh ?_ _)); refine zq (cs := #[.int .i64 (wrap64 (Int.tmod (rd l0 0) 256)), .int .i64 (wrap64 (Int.tmod (IntKind.u64.wrap (Int.tdiv (rd l0 0) 256)) 65536)), .int .i64 (wrap64 (Int.tmod (IntKind.u64.wrap (Int.tdiv (rd l0 0) 16777216)) 4294967296)), .int .u64 Jn, .int .i64 Jb, .int .i64 Jc, .int .i64 Jd, .int .i64 Je, .int .i64 (wrap64 ((wrap64 (Int.tmod (rd l0 3) 65536)) - 1)), .int .i64 Jy]) ?_ 9 _ rfl; (with_reducible repeat (first | refine zg ?_ _ | refine zi ?_ | refine zh ?_ _)); refine zq (cs := #[.int .i64 (wrap64 (Int.tmod (rd l0 0) 256)), .int .i64 (wrap64 (Int.tmod (IntKind.u64.wrap (Int.tdiv (rd l0 0) 256)) 65536)), .int .i64 (wrap64 (Int.tmod (IntKind.u64.wrap (Int.tdiv (rd l0 0) 16777216)) 4294967296)), .int .u64 Jn, .int .i64 Jb, .int .i64 Jc, .int .i64 Jd, .int .i64 Je, .int .i64 Jk, .int .i64 Jy]) ?_ 8 _ rfl; (with_reducible repeat (first | refine zg ?_ _ | refine zi ?_ | refine zh ?_ _)); exact Ja.o) hb); have n3_ := ze.mk (zu (by repeat (first | (with_reducible first | exact HB.o | apply zl | apply zf | apply zk | refine zm ?_ Jq.o | refine zm ?_ Jt.o) | exact HB.o)) hb); clear Jh; clear Ja; clear HB; have Js := n0_; have Jh := n1_; have Ja := n2_; have HB := n3_; clear n0_ n1_ n2_ n3_; (try clear hb); (try clear hb2); (try clear hk); (try clear hi); (try clear ho0); have Jbz : w48.cell? ⟨Jg, 0, none⟩ = some (.int .i64 0) := (zb Jh.o 0).trans rfl; have Jby : w48.cell? ⟨Jg, 1, none⟩ = some (.int .i64 0) := (zb Jh.o 1).trans rfl; have Jbx : w48.cell? ⟨Jg, 2, none⟩ = some (.int .i64 0) := (zb Jh.o 2).trans rfl; have Jbw : w48.cell? ⟨Jg, 3, none⟩ = some (.int .u64 0) := (zb Jh.o 3).trans rfl; have Jbv : w48.cell? ⟨Jg, 4, none⟩ = some (.int .i64 0) := (zb Jh.o 4).trans rfl; have Jbu : w48.cell? ⟨Jg, 5, none⟩ = some (.int .i64 0) := (zb Jh.o 5).trans rfl; have Jbt : w48.cell? ⟨Jg, 6, none⟩ = some (.int .i64 0) := (zb Jh.o 6).trans rfl; have Jbs : w48.cell? ⟨Jg, 7, none⟩ = some (.int .i64 0) := (zb Jh.o 7).trans rfl; have Jbr : w48.cell? ⟨Jg, 8, none⟩ = some (.int .i64 0) := (zb Jh.o 8).trans rfl; have Jbq : w48.cell? ⟨Jg, 9, none⟩ = some (.int .i64 0) := (zb Jh.o 9).trans rfl; have Bh := za Jh.o 0; have Bg := za Jh.o 1; have Bf := za Jh.o 2; have Be := za Jh.o 3; have Bd := za Jh.o 4; have Bc := za Jh.o 5; have D7 := za Jh.o 6; have D6 := za Jh.o 7; have D5 := za Jh.o 8; have DZ := za Jh.o 9) | ((with_reducible refine zJ (t := 37) (p := 2) rfl ?_); refine zH (t := 37) (p := 2) (v := ?vo_w50) (w1 := ((((((((((w48.setCell ⟨Jg, 0, none⟩ (.int .i64 0)).setCell ⟨Jg, 1, none⟩ (.int .i64 0)).setCell ⟨Jg, 2, none⟩ (.int .i64 0)).setCell ⟨Jg, 3, none⟩ (.int .u64 0)).setCell ⟨Jg, 4, none⟩ (.int .i64 0)).setCell ⟨Jg, 5, none⟩ (.int .i64 0)).setCell ⟨Jg, 6, none⟩ (.int .i64 0)).setCell ⟨Jg, 7, none⟩ (.int .i64 0)).setCell ⟨Jg, 8, none⟩ (.int .i64 0)).setCell ⟨Jg, 9, none⟩ (.int .i64 0))) ?hg ?ho ?hn ?hr ?_; (case ho => rfl); (case hg => rfl); (case hn => rfl); (case hr => exact zM rfl rfl rfl (zP (P := Tryz.prog) (o := 0) (cur := #[.int .i64 0, .int .i64 0, .int .i64 0, .int .u64 0, .int .i64 0, .int .i64 0, .int .i64 0, .int .i64 0, .int .i64 0, .int .i64 0]) 37 (.agg #[.int .i64 0, .int .i64 0, .int .i64 0, .int .u64 0, .int .i64 0, .int .i64 0, .int .i64 0, .int .i64 0, .int .i64 0, .int .i64 0]) [.int .i64 0, .int .i64 0, .int .i64 0, .int .u64 0, .int .i64 0, .int .i64 0, .int .i64 0, .int .i64 0, .int .i64 0, .int .i64 0] (show _ = some (Obj.cells #[.int .i64 0, .int .i64 0, .int .i64 0, .int .u64 0, .int .i64 0, .int .i64 0, .int .i64 0, .int .i64 0, .int .i64 0, .int .i64 0] 37 (0, 0)) from (by (with_reducible repeat (first | refine zg ?_ _ | refine zi ?_ | refine zh ?_ _)); exact Jh.o)) rfl (by kernel_rfl) (show 10 ≤ 10 by decide) (by intro q_ hq_; simp only [List.mem_cons, List.not_mem_nil, or_false] at hq_; rcases hq_ with rfl | rfl | rfl | rfl | rfl | rfl | rfl | rfl | rfl | rfl <;> rfl))); intro w50 hw; have n0_ : ze (Kd.R (Kd.int .u64) 34 w50 w.heap.size (fun _ => True) DI JY) := ⟨(by rw [hw]; exact (by (with_reducible repeat (first | apply Kd.zz | apply Kd.zA | apply Kd.zF)); exact Kd.zT (Kd.R_far (p := ⟨Jg, 9, none⟩) (Kd.R_far (p := ⟨Jg, 8, none⟩) (Kd.R_far (p := ⟨Jg, 7, none⟩) (Kd.R_far (p := ⟨Jg, 6, none⟩) (Kd.R_far (p := ⟨Jg, 5, none⟩) (Kd.R_far (p := ⟨Jg, 4, none⟩) (Kd.R_far (p := ⟨Jg, 3, none⟩) (Kd.R_far (p := ⟨Jg, 2, none⟩) (Kd.R_far (p := ⟨Jg, 1, none⟩) (Kd.R_far (p := ⟨Jg, 0, none⟩) (Kd.yD Js.o Jh.o (by decide)) (fun _ hk => hk.2) (.int .i64 0)) (fun _ hk => hk.2) (.int .i64 0)) (fun _ hk => hk.2) (.int .i64 0)) (fun _ hk => hk.2) (.int .u64 0)) (fun _ hk => hk.2) (.int .i64 0)) (fun _ hk => hk.2) (.int .i64 0)) (fun _ hk => hk.2) (.int .i64 0)) (fun _ hk => hk.2) (.int .i64 0)) (fun _ hk => hk.2) (.int .i64 0)) (fun _ hk => hk.2) (.int .i64 0)) (fun _ hk => trivial)))⟩; have n1_ : ze (w50.heap[Jg]? = some (.cells #[.int .i64 0, .int .i64 0, .int .i64 0, .int .u64 0, .int .i64 0, .int .i64 0, .int .i64 0, .int .i64 0, .int .i64 0, .int .i64 0] 37 (0, 0))) := ⟨(by rw [hw]; exact (by (with_reducible repeat (first | refine zg ?_ _ | refine zi ?_ | refine zh ?_ _)); refine zq (cs := #[.int .i64 0, .int .i64 0, .int .i64 0, .int .u64 0, .int .i64 0, .int .i64 0, .int .i64 0, .int .i64 0, .int .i64 0, .int .i64 0]) ?_ 9 _ rfl; (with_reducible repeat (first | refine zg ?_ _ | refine zi ?_ | refine zh ?_ _)); refine zq (cs := #[.int .i64 0, .int .i64 0, .int .i64 0, .int .u64 0, .int .i64 0, .int .i64 0, .int .i64 0, .int .i64 0, .int .i64 0, .int .i64 0]) ?_ 8 _ rfl; (with_reducible repeat (first | refine zg ?_ _ | refine zi ?_ | refine zh ?_ _)); refine zq (cs := #[.int .i64 0, .int .i64 0, .int .i64 0, .int .u64 0, .int .i64 0, .int .i64 0, .int .i64 0, .int .i64 0, .int .i64 0, .int .i64 0]) ?_ 7 _ rfl; (with_reducible repeat (first | refine zg ?_ _ | refine zi ?_ | refine zh ?_ _)); refine zq (cs := #[.int .i64 0, .int .i64 0, .int .i64 0, .int .u64 0, .int .i64 0, .int .i64 0, .int .i64 0, .int .i64 0, .int .i64 0, .int .i64 0]) ?_ 6 _ rfl; (with_reducible repeat (first | refine zg ?_ _ | refine zi ?_ | refine zh ?_ _)); refine zq (cs := #[.int .i64 0, .int .i64 0, .int .i64 0, .int .u64 0, .int .i64 0, .int .i64 0, .int .i64 0, .int .i64 0, .int .i64 0, .int .i64 0]) ?_ 5 _ rfl; (with_reducible repeat (first | refine zg ?_ _ | refine zi ?_ | refine zh ?_ _)); refine zq (cs := #[.int .i64 0, .int .i64 0, .int .i64 0, .int .u64 0, .int .i64 0, .int .i64 0, .int .i64 0, .int .i64 0, .int .i64 0, .int .i64 0]) ?_ 4 _ rfl; (with_reducible repeat (first | refine zg ?_ _ | refine zi ?_ | refine zh ?_ _)); refine zq (cs := #[.int .i64 0, .int .i64 0, .int .i64 0, .int .u64 0, .int .i64 0, .int .i64 0, .int .i64 0, .int .i64 0, .int .i64 0, .int .i64 0]) ?_ 3 _ rfl; (with_reducible repeat (first | refine zg ?_ _ | refine zi ?_ | refine zh ?_ _)); refine zq (cs := #[.int .i64 0, .int .i64 0, .int .i64 0, .int .u64 0, .int .i64 0, .int .i64 0, .int .i64 0, .int .i64 0, .int .i64 0, .int .i64 0]) ?_ 2 _ rfl; (with_reducible repeat (first | refine zg ?_ _ | refine zi ?_ | refine zh ?_ _)); refine zq (cs := #[.int .i64 0, .int .i64 0, .int .i64 0, .int .u64 0, .int .i64 0, .int .i64 0, .int .i64 0, .int .i64 0, .int .i64 0, .int .i64 0]) ?_ 1 _ rfl; (with_reducible repeat (first | refine zg ?_ _ | refine zi ?_ | refine zh ?_ _)); refine zq (cs := #[.int .i64 0, .int .i64 0, .int .i64 0, .int .u64 0, .int .i64 0, .int .i64 0, .int .i64 0, .int .i64 0, .int .i64 0, .int .i64 0]) ?_ 0 _ rfl; (with_reducible repeat (first | refine zg ?_ _ | refine zi ?_ | refine zh ?_ _)); exact Jh.o))⟩; have n2_ : ze (w50.heap[Jf]? = some (.cells #[.int .i64 (wrap64 (Int.tmod (rd l0 0) 256)), .int .i64 (wrap64 (Int.tmod (IntKind.u64.wrap (Int.tdiv (rd l0 0) 256)) 65536)), .int .i64 (wrap64 (Int.tmod (IntKind.u64.wrap (Int.tdiv (rd l0 0) 16777216)) 4294967296)), .int .u64 Jn, .int .i64 Jb, .int .i64 Jc, .int .i64 Jd, .int .i64 Je, .int .i64 (wrap64 ((wrap64 (Int.tmod (rd l0 3) 65536)) - 1)), .int .i64 (wrap64 ((wrap64 (Int.tmod (IntKind.u64.wrap (Int.tdiv (rd l0 3) 65536)) 65536)) - 1))] 37 (0, 0))) := ⟨(by rw [hw]; exact (by (with_reducible repeat (first | refine zg ?_ _ | refine zi ?_ | refine zh ?_ _)); refine zB ?_ Ji.o _; (with_reducible repeat (first | refine zg ?_ _ | refine zi ?_ | refine zh ?_ _)); refine zB ?_ Ji.o _; (with_reducible repeat (first | refine zg ?_ _ | refine zi ?_ | refine zh ?_ _)); refine zB ?_ Ji.o _; (with_reducible repeat (first | refine zg ?_ _ | refine zi ?_ | refine zh ?_ _)); refine zB ?_ Ji.o _; (with_reducible repeat (first | refine zg ?_ _ | refine zi ?_ | refine zh ?_ _)); refine zB ?_ Ji.o _; (with_reducible repeat (first | refine zg ?_ _ | refine zi ?_ | refine zh ?_ _)); refine zB ?_ Ji.o _; (with_reducible repeat (first | refine zg ?_ _ | refine zi ?_ | refine zh ?_ _)); refine zB ?_ Ji.o _; (with_reducible repeat (first | refine zg ?_ _ | refine zi ?_ | refine zh ?_ _)); refine zB ?_ Ji.o _; (with_reducible repeat (first | refine zg ?_ _ | refine zi ?_ | refine zh ?_ _)); refine zB ?_ Ji.o _; (with_reducible repeat (first | refine zg ?_ _ | refine zi ?_ | refine zh ?_ _)); refine zB ?_ Ji.o _; (with_reducible repeat (first | refine zg ?_ _ | refine zi ?_ | refine zh ?_ _)); exact Ja.o))⟩; have n3_ : ze (Below w.heap.size w w50) := ⟨(by rw [hw]; exact (by repeat (first | (with_reducible first | exact HB.o | apply zl | apply zf | apply zk | refine zm ?_ Jq.o | refine zm ?_ Jt.o) | exact HB.o)))⟩; clear hw; clear Js; clear Jh; clear Ja; clear HB; have Js := n0_; have Jh := n1_; have Ja := n2_; have HB := n3_; clear n0_ n1_ n2_ n3_))
          refine bodyPost_ret (yE rfl _ _ Jg 37 #[.int .i64 0, .int .i64 0, .int .i64 0, .int .u64 0, .int .i64 0, .int .i64 0, .int .i64 0, .int .i64 0, .int .i64 0, .int .i64 0] (0, 0) _ rfl (by (with_reducible repeat (first | refine zg ?_ _ | refine zi ?_ | refine zh ?_ _)); exact Jh.o) Tryz.underlying37 rfl (by kernel_rfl)) rfl ?_
          exact ⟨by first | rfl | (simp [zy, zx] <;> rfl) | (simp [*, zy, zx] <;> rfl), by repeat (first | (with_reducible first | exact HB.o | apply zl | apply zf | apply zk | refine zm ?_ Jq.o | refine zm ?_ Jt.o) | exact HB.o)⟩
        ·rw [if_neg c28] at H
         exact absurd H (by simp)
    ·rw [if_neg c6] at H
     exact absurd H (by simp)
   ·rw [if_neg c5] at H
    exact absurd H (by simp)
  ·rw [if_neg c3] at H
   exact absurd H (by simp)
 ·rw [if_neg c2] at H
  have c2b0 : ((l0.length : Int) == 8) = false := beq_eq_false_iff_ne.mpr c2
  have c2b1 : ((l0.length : Int) != 8) = true := bne_iff_ne.mpr c2
  simp only [Option.some.injEq, Prod.mk.injEq] at H
  obtain ⟨rfl, rfl, rfl, rfl, rfl, rfl, rfl, rfl, rfl, rfl, rfl⟩ := H
  go_enter Tryz.func53, Tryz.ntmps53
  go_wp2_with (first | ((with_reducible refine zD (N := 2) rfl ?_); refine zC ?hg (N := 2) ?hd (cs := #[.int .i64 0, .int .i64 0, .int .i64 0, .int .u64 0, .int .i64 0, .int .i64 0, .int .i64 0, .int .i64 0, .int .i64 0, .int .i64 0]) (t := 37) ?hr ?_; (case hd => rfl); (case hg => rfl); (case hr => first | (go_simp; done) | (go_simp; rfl)); intro Jg hg w51 hbox hb; have n0_ := ze.mk (zu (by repeat (first | (with_reducible first | exact HB.o | apply zl | apply zf | apply zk) | exact HB.o)) hb); have n1_ := ze.mk (hbox); have n2_ := ze.mk ((by rw [hg]; exact (zt (by repeat (first | (with_reducible first | exact HB.o | apply zl | apply zf | apply zk) | exact HB.o))) : w.heap.size ≤ Jg)); have n3_ := ze.mk ((by rw [hg]; exact (zt (by repeat (first | (with_reducible first | exact HB.o | apply zl | apply zf | apply zk) | exact HB.o))) : w.heap.size ≤ Jg)); clear HB; have HB := n0_; have Jh := n1_; have Jdm := n2_; have Jq := n3_; clear n0_ n1_ n2_ n3_; clear hb hbox hg; have Jbp : w51.cell? ⟨Jg, 0, none⟩ = some (.int .i64 0) := (zb Jh.o 0).trans rfl; have Jbo : w51.cell? ⟨Jg, 1, none⟩ = some (.int .i64 0) := (zb Jh.o 1).trans rfl; have Jbn : w51.cell? ⟨Jg, 2, none⟩ = some (.int .i64 0) := (zb Jh.o 2).trans rfl; have Jbm : w51.cell? ⟨Jg, 3, none⟩ = some (.int .u64 0) := (zb Jh.o 3).trans rfl; have Jbl : w51.cell? ⟨Jg, 4, none⟩ = some (.int .i64 0) := (zb Jh.o 4).trans rfl; have Jbk : w51.cell? ⟨Jg, 5, none⟩ = some (.int .i64 0) := (zb Jh.o 5).trans rfl; have Jbj : w51.cell? ⟨Jg, 6, none⟩ = some (.int .i64 0) := (zb Jh.o 6).trans rfl; have Jbi : w51.cell? ⟨Jg, 7, none⟩ = some (.int .i64 0) := (zb Jh.o 7).trans rfl; have Jbh : w51.cell? ⟨Jg, 8, none⟩ = some (.int .i64 0) := (zb Jh.o 8).trans rfl; have Jbg : w51.cell? ⟨Jg, 9, none⟩ = some (.int .i64 0) := (zb Jh.o 9).trans rfl; have DY := za Jh.o 0; have DW := za Jh.o 1; have DV := za Jh.o 2; have DU := za Jh.o 3; have DT := za Jh.o 4; have DR := za Jh.o 5; have DN := za Jh.o 6; have DL := za Jh.o 7; have DK := za Jh.o 8; have DJ := za Jh.o 9) | ((with_reducible refine zJ (t := 37) (p := 2) rfl ?_); refine zH (t := 37) (p := 2) (v := ?vo_w53) (w1 := ((((((((((w51.setCell ⟨Jg, 0, none⟩ (.int .i64 0)).setCell ⟨Jg, 1, none⟩ (.int .i64 0)).setCell ⟨Jg, 2, none⟩ (.int .i64 0)).setCell ⟨Jg, 3, none⟩ (.int .u64 0)).setCell ⟨Jg, 4, none⟩ (.int .i64 0)).setCell ⟨Jg, 5, none⟩ (.int .i64 0)).setCell ⟨Jg, 6, none⟩ (.int .i64 0)).setCell ⟨Jg, 7, none⟩ (.int .i64 0)).setCell ⟨Jg, 8, none⟩ (.int .i64 0)).setCell ⟨Jg, 9, none⟩ (.int .i64 0))) ?hg ?ho ?hn ?hr ?_; (case ho => rfl); (case hg => rfl); (case hn => rfl); (case hr => exact zM rfl rfl rfl (zP (P := Tryz.prog) (o := 0) (cur := #[.int .i64 0, .int .i64 0, .int .i64 0, .int .u64 0, .int .i64 0, .int .i64 0, .int .i64 0, .int .i64 0, .int .i64 0, .int .i64 0]) 37 (.agg #[.int .i64 0, .int .i64 0, .int .i64 0, .int .u64 0, .int .i64 0, .int .i64 0, .int .i64 0, .int .i64 0, .int .i64 0, .int .i64 0]) [.int .i64 0, .int .i64 0, .int .i64 0, .int .u64 0, .int .i64 0, .int .i64 0, .int .i64 0, .int .i64 0, .int .i64 0, .int .i64 0] (show _ = some (Obj.cells #[.int .i64 0, .int .i64 0, .int .i64 0, .int .u64 0, .int .i64 0, .int .i64 0, .int .i64 0, .int .i64 0, .int .i64 0, .int .i64 0] 37 (0, 0)) from (by (with_reducible repeat (first | refine zg ?_ _ | refine zi ?_ | refine zh ?_ _)); exact Jh.o)) rfl (by kernel_rfl) (show 10 ≤ 10 by decide) (by intro q_ hq_; simp only [List.mem_cons, List.not_mem_nil, or_false] at hq_; rcases hq_ with rfl | rfl | rfl | rfl | rfl | rfl | rfl | rfl | rfl | rfl <;> rfl))); intro w53 hw; have n0_ : ze (w53.heap[Jg]? = some (.cells #[.int .i64 0, .int .i64 0, .int .i64 0, .int .u64 0, .int .i64 0, .int .i64 0, .int .i64 0, .int .i64 0, .int .i64 0, .int .i64 0] 37 (0, 0))) := ⟨(by rw [hw]; exact (by (with_reducible repeat (first | refine zg ?_ _ | refine zi ?_ | refine zh ?_ _)); refine zq (cs := #[.int .i64 0, .int .i64 0, .int .i64 0, .int .u64 0, .int .i64 0, .int .i64 0, .int .i64 0, .int .i64 0, .int .i64 0, .int .i64 0]) ?_ 9 _ rfl; (with_reducible repeat (first | refine zg ?_ _ | refine zi ?_ | refine zh ?_ _)); refine zq (cs := #[.int .i64 0, .int .i64 0, .int .i64 0, .int .u64 0, .int .i64 0, .int .i64 0, .int .i64 0, .int .i64 0, .int .i64 0, .int .i64 0]) ?_ 8 _ rfl; (with_reducible repeat (first | refine zg ?_ _ | refine zi ?_ | refine zh ?_ _)); refine zq (cs := #[.int .i64 0, .int .i64 0, .int .i64 0, .int .u64 0, .int .i64 0, .int .i64 0, .int .i64 0, .int .i64 0, .int .i64 0, .int .i64 0]) ?_ 7 _ rfl; (with_reducible repeat (first | refine zg ?_ _ | refine zi ?_ | refine zh ?_ _)); refine zq (cs := #[.int .i64 0, .int .i64 0, .int .i64 0, .int .u64 0, .int .i64 0, .int .i64 0, .int .i64 0, .int .i64 0, .int .i64 0, .int .i64 0]) ?_ 6 _ rfl; (with_reducible repeat (first | refine zg ?_ _ | refine zi ?_ | refine zh ?_ _)); refine zq (cs := #[.int .i64 0, .int .i64 0, .int .i64 0, .int .u64 0, .int .i64 0, .int .i64 0, .int .i64 0, .int .i64 0, .int .i64 0, .int .i64 0]) ?_ 5 _ rfl; (with_reducible repeat (first | refine zg ?_ _ | refine zi ?_ | refine zh ?_ _)); refine zq (cs := #[.int .i64 0, .int .i64 0, .int .i64 0, .int .u64 0, .int .i64 0, .int .i64 0, .int .i64 0, .int .i64 0, .int .i64 0, .int .i64 0]) ?_ 4 _ rfl; (with_reducible repeat (first | refine zg ?_ _ | refine zi ?_ | refine zh ?_ _)); refine zq (cs := #[.int .i64 0, .int .i64 0, .int .i64 0, .int .u64 0, .int .i64 0, .int .i64 0, .int .i64 0, .int .i64 0, .int .i64 0, .int .i64 0]) ?_ 3 _ rfl; (with_reducible repeat (first | refine zg ?_ _ | refine zi ?_ | refine zh ?_ _)); refine zq (cs := #[.int .i64 0, .int .i64 0, .int .i64 0, .int .u64 0, .int .i64 0, .int .i64 0, .int .i64 0, .int .i64 0, .int .i64 0, .int .i64 0]) ?_ 2 _ rfl; (with_reducible repeat (first | refine zg ?_ _ | refine zi ?_ | refine zh ?_ _)); refine zq (cs := #[.int .i64 0, .int .i64 0, .int .i64 0, .int .u64 0, .int .i64 0, .int .i64 0, .int .i64 0, .int .i64 0, .int .i64 0, .int .i64 0]) ?_ 1 _ rfl; (with_reducible repeat (first | refine zg ?_ _ | refine zi ?_ | refine zh ?_ _)); refine zq (cs := #[.int .i64 0, .int .i64 0, .int .i64 0, .int .u64 0, .int .i64 0, .int .i64 0, .int .i64 0, .int .i64 0, .int .i64 0, .int .i64 0]) ?_ 0 _ rfl; (with_reducible repeat (first | refine zg ?_ _ | refine zi ?_ | refine zh ?_ _)); exact Jh.o))⟩; have n1_ : ze (Below w.heap.size w w53) := ⟨(by rw [hw]; exact (by repeat (first | (with_reducible first | exact HB.o | apply zl | apply zf | apply zk | refine zm ?_ Jq.o) | exact HB.o)))⟩; clear hw; clear Jh; clear HB; have Jh := n0_; have HB := n1_; clear n0_ n1_))
  refine bodyPost_ret (yE rfl _ _ Jg 37 #[.int .i64 0, .int .i64 0, .int .i64 0, .int .u64 0, .int .i64 0, .int .i64 0, .int .i64 0, .int .i64 0, .int .i64 0, .int .i64 0] (0, 0) _ rfl (by (with_reducible repeat (first | refine zg ?_ _ | refine zi ?_ | refine zh ?_ _)); exact Jh.o) Tryz.underlying37 rfl (by kernel_rfl)) rfl ?_
  exact ⟨by first | rfl | (simp [zy, zx] <;> rfl) | (simp [*, zy, zx] <;> rfl), by repeat (first | (with_reducible first | exact HB.o | apply zl | apply zf | apply zk | refine zm ?_ Jq.o) | exact HB.o)⟩

/-! ### plan_Block: function 57 -/
def plan_Block.f (k : Nat) (a0 : Int) : Option (Int × Int) := (plan_first.f k 5 a0).bind fun Ga => (some (Ga.1, Ga.2))
set_option maxHeartbeats 8000000 in
set_option maxRecDepth 100000 in
theorem plan_Block.calls (k : Nat) (a0 : Int) (r1 : Int) (r2 : Int) (w : World) (h : plan_Block.f k a0 = some (r1, r2)) :
  Calls Tryz.prog 57 #[.int .i64 a0] w fun e w' => e = .returned (.tuple #[.int .i64 r1, .int .i64 r2]) ∧ Below w.heap.size w w' := by
 have HB := ze.mk (Below.refl w.heap.size w)
 have H : ((plan_first.f k 5 a0).bind fun Ga => (some (Ga.1, Ga.2))) = some (r1, r2) := h
 clear h
 replace H := Option.bind_eq_some_iff.mp H
 obtain ⟨⟨t278, t279⟩, A20, H⟩ := H
 replace H : (some (t278, t279)) = some (r1, r2) := H
 have A2 := ze.mk A20
 clear A20
 simp only [Option.some.injEq, Prod.mk.injEq] at H
 obtain ⟨rfl, rfl⟩ := H
 go_enter Tryz.func57, Tryz.ntmps57
 go_wp2_with (first | ((with_reducible refine zN (f := 64) rfl ?_); refine yh (some 5) rfl rfl Tryz.func64 (by kernel_rfl) rfl #[.int .i64 5, .int .i64 a0] rfl (by (try simp only [List.map_toArray, List.map_cons, List.map_nil]); first | done | rfl | (simp only [List.length_drop, List.length_take]; rfl)) ?_; (with_reducible refine (plan_first.calls k 5 a0 t278 t279 _ A2.o).mono ?_); rintro e w3 ⟨rfl, hb⟩; refine ⟨_, rfl, ?_⟩; have n0_ := ze.mk (zu (by repeat (first | (with_reducible first | exact HB.o | apply zl | apply zf | apply zk) | exact HB.o)) hb); clear HB; have HB := n0_; clear n0_; (try clear hb); (try clear hb2); (try clear hk); (try clear hi)))
 go_ret2
 exact ⟨by first | rfl | (simp [zy, zx] <;> rfl) | (simp [*, zy, zx] <;> rfl), by repeat (first | (with_reducible first | exact HB.o | apply zl | apply zf | apply zk) | exact HB.o)⟩

/-! ### escritoireref08_Has: function 36 -/
def escritoireref08_Has.l0 : Nat → List Int → Int → Int → Option (Bool)
 | 0, _, _, _ => none
 | k + 1, x0, x1, x5 => if x5 < (x0.length : Int) then (if 0 ≤ x5 then (if (rd x0 x5) = x1 then (some true) else (escritoireref08_Has.l0 k x0 x1 (wrap64 (x5 + 1)))) else (none)) else (some false)
def escritoireref08_Has.f (k : Nat) (l0 : List Int) (a1 : Int) : Option (Bool) := escritoireref08_Has.l0 k l0 a1 0
set_option maxHeartbeats 8000000 in
set_option maxRecDepth 100000 in
theorem escritoireref08_Has.calls (k : Nat) (A0 : Option Addr) (c0 : Nat) (l0 : List Int) (a1 : Int) (r : Bool) (w : World) (hr0 : Kd.C (Kd.int .i64) w A0 l0.length l0) (hc0 : l0.length ≤ c0) (h : escritoireref08_Has.f k l0 a1 = some r) :
  Calls Tryz.prog 36 #[.slice A0 l0.length c0, .int .i64 a1] w fun e w' => e = .returned (.bool r) ∧ zL w w' := by
 have HR0 := ze.mk hr0
 have HC0 := ze.mk hc0
 clear hr0 hc0
 have H : (escritoireref08_Has.l0 k l0 a1 0) = some r := h
 clear h
 have H' := ze.mk H
 clear H
 go_enter Tryz.func36, Tryz.ntmps36
 go_wp2
 go_loopg [5] k (fun kq v5 w' => ∃ (Ju : Int), v5 = .int .i64 Ju ∧ ze (escritoireref08_Has.l0 kq l0 a1 Ju = some r) ∧ ze (kq ≤ k) ∧ zL w w')
 case atStart => exact ⟨(0), (by first | rfl | (simp; done) | (simp [*]; done) | kernel_rfl), H', ⟨Nat.le_refl _⟩, by repeat (first | exact zL.refl _ | apply zL.step)⟩
 case round =>
  clear H'
  try clear p2
  obtain ⟨Ju, rfl, HA, HK1, ⟨m1, rfl⟩⟩ := hrel
  cases gk with
  | zero => exact absurd HA.o (by simp [escritoireref08_Has.l0])
  | succ k1 =>
   have H := HA.o
   clear HA
   simp only [escritoireref08_Has.l0] at H
   by_cases c3 : Ju < (l0.length : Int)
   ·rw [if_pos c3] at H
    have Jde : decide (Ju < (l0.length : Int)) = true := decide_eq_true c3
    clear c3
    by_cases c4 : 0 ≤ Ju
    ·rw [if_pos c4] at H
     have c4b0 : decide (0 ≤ Ju) = true := decide_eq_true c4
     clear c4
     by_cases c5 : (rd l0 Ju) = a1
     ·rw [if_pos c5] at H
      have Jdd : ((rd l0 Ju) == a1) = true := beq_iff_eq.mpr c5
      have Jdc : ((rd l0 Ju) != a1) = false := bne_eq_false_iff_eq.mpr c5
      clear c5
      obtain rfl := Option.some.inj H
      have Gl : 0 ≤ (Ju : Int) := of_decide_eq_true (by first | (with_reducible assumption) | assumption)
      have Gj : Ju < (l0.length : Int) := of_decide_eq_true (by first | (with_reducible assumption) | assumption)
      obtain ⟨Jdh, e280, Gm⟩ := Kd.zX HR0.o Ju Gl Gj
      cases e280
      replace Gl := eq_true Gl
      replace Gj := eq_true Gj
      go_wp2
      go_ret
      exact ⟨by first | rfl | (simp; done) | (simp [*]; done), by repeat (first | exact zL.refl _ | apply zL.step)⟩
     ·rw [if_neg c5] at H
      have Jdd : ((rd l0 Ju) == a1) = false := beq_eq_false_iff_ne.mpr c5
      have Jdc : ((rd l0 Ju) != a1) = true := bne_iff_ne.mpr c5
      have H' := ze.mk H
      clear H
      have Gl : 0 ≤ (Ju : Int) := of_decide_eq_true (by first | (with_reducible assumption) | assumption)
      have Gj : Ju < (l0.length : Int) := of_decide_eq_true (by first | (with_reducible assumption) | assumption)
      obtain ⟨Jdh, e280, Gm⟩ := Kd.zX HR0.o Ju Gl Gj
      cases e280
      replace Gl := eq_true Gl
      replace Gj := eq_true Gj
      go_wp2
      go_roundg k1
      case measure => have := HK1.o; omega
      case rel => exact ⟨(wrap64 (Ju + 1)), (by first | rfl | (simp; done) | (simp [*]; done) | kernel_rfl), H', ⟨by have := HK1.o; omega⟩, by repeat (first | exact zL.refl _ | apply zL.step)⟩
    ·rw [if_neg c4] at H
     exact absurd H (by simp)
   ·rw [if_neg c3] at H
    have Jde : decide (Ju < (l0.length : Int)) = false := decide_eq_false c3
    clear c3
    obtain rfl := Option.some.inj H
    go_wp2
    go_ret
    exact ⟨by first | rfl | (simp; done) | (simp [*]; done), by repeat (first | exact zL.refl _ | apply zL.step)⟩

/-! ### cmp_isNaN_int: function 114 -/
/-! ### cmp_Less_int: function 108 -/
end Go.Proofs.YtkbhilhefnahpaaGreat.Print
