import Derived.Test.YtkbhilhefnahpaaGreatPrint0
import Derived.Test.YtkbhilhefnahpaaGreatPrint5
import Derived.Test.YtkbhilhefnahpaaGreatPrint7
namespace Go.Proofs.YtkbhilhefnahpaaGreat.Print
open Go.RowKit Go.Proofs.YtkbhilhefnahpaaGreatW.PrintWords Go.Proofs.YtkbhilhefnahpaaGreatW.PrintLast Go.Proofs.YtkbhilhefnahpaaGreatW.PrintMore
attribute [local go_sem] yS yR Zq Zp yH yG Zb Za   -- for this text's walks alone
set_option linter.unusedVariables false
set_option linter.unusedSimpArgs false

/-! ### cards_Read: function 51 -/
mutual
def cards_Read.l0 : Nat → List Int → List Int → List (S105) → Int → Int → Option (Int × Int × Int × Int × Int × Int × Int × Int × Int × Int × Int)
 | 0, _, _, _, _, _ => none
 | k + 1, x0, x4, x17, x18, x19 => if x19 < x18 then (if 0 ≤ x19 then (if x19 < (x17.length : Int) then (if 0 ≤ ((zo x17 x19).f0) then (if ((zo x17 x19).f0) < (x0.length : Int) then ((words_Get.f (rd x0 ((zo x17 x19).f0)) ((zo x17 x19).f1) ((zo x17 x19).f2)).bind fun Jdy => (if x4.length < 17592186044416 then (cards_Read.l0 k x0 (x4 ++ [wrap64 (Jdy.1)]) x17 x18 (wrap64 (x19 + 1))) else (none))) else (none)) else (none)) else (none)) else (none)) else (if 0 < (x4.length : Int) then (if 1 < (x4.length : Int) then (if 2 < (x4.length : Int) then (if 1 < (x0.length : Int) then (if 0 ≤ (wrap64 ((x4.length : Int) - 1)) then (if (wrap64 ((x4.length : Int) - 1)) < (x4.length : Int) then (cards_Read.l1 k x0 x4 0 (rd x4 0) (rd x4 1) (rd x4 2) (rd x0 1) 0 0 0 0 0 (wrap64 ((rd x4 (wrap64 ((x4.length : Int) - 1))) - 1))) else (none)) else (none)) else (none)) else (none)) else (none)) else (none))
def cards_Read.l1 : Nat → List Int → List Int → Int → Int → Int → Int → Int → Int → Int → Int → Int → Int → Int → Option (Int × Int × Int × Int × Int × Int × Int × Int × Int × Int × Int)
 | 0, _, _, _, _, _, _, _, _, _, _, _, _, _ => none
 | k + 1, x0, x4, x62, JH, JG, JF, JE, JO, JN, JM, JL, JK, JD => if x62 < 5 then (if 0 ≤ (wrap64 (3 + x62)) then (if (wrap64 (3 + x62)) < (x4.length : Int) then (if x62 = 0 then (cards_Read.l1 k x0 x4 (wrap64 (x62 + 1)) JH JG JF JE (wrap64 ((rd x4 (wrap64 (3 + x62))) - 1)) JN JM JL JK JD) else (if x62 = 1 then (cards_Read.l1 k x0 x4 (wrap64 (x62 + 1)) JH JG JF JE JO (wrap64 ((rd x4 (wrap64 (3 + x62))) - 1)) JM JL JK JD) else (if x62 = 2 then (cards_Read.l1 k x0 x4 (wrap64 (x62 + 1)) JH JG JF JE JO JN (wrap64 ((rd x4 (wrap64 (3 + x62))) - 1)) JL JK JD) else (if x62 = 3 then (cards_Read.l1 k x0 x4 (wrap64 (x62 + 1)) JH JG JF JE JO JN JM (wrap64 ((rd x4 (wrap64 (3 + x62))) - 1)) JK JD) else (if x62 = 4 then (cards_Read.l1 k x0 x4 (wrap64 (x62 + 1)) JH JG JF JE JO JN JM JL (wrap64 ((rd x4 (wrap64 (3 + x62))) - 1)) JD) else (none)))))) else (none)) else (none)) else ((cards_Write.f k JH JG JF JE JO JN JM JL JK JD).bind fun Gr => (if Gr.2 = 0 then ((slices_Equal_uint64_uint64.f k Gr.1 x0).bind fun Gp => (if Gp = true then (some (JH, JG, JF, JE, JO, JN, JM, JL, JK, JD, 0)) else (some (0, 0, 0, 0, 0, 0, 0, 0, 0, 0, 15)))) else (some (0, 0, 0, 0, 0, 0, 0, 0, 0, 0, 15))))
end
def cards_Read.f (k : Nat) (l0 : List Int) : Option (Int × Int × Int × Int × Int × Int × Int × Int × Int × Int × Int) := if (l0.length : Int) = 8 then ((cards_fields.f k).bind fun Jr => (cards_Read.l0 k l0 ([] : List Int) Jr (Jr.length : Int) 0)) else (some (0, 0, 0, 0, 0, 0, 0, 0, 0, 0, 15))
def cards_Read.T7 : Bool × List (List Nat × List Nat) := (true, [([], []), ([], []), ([1], [1]), ([0, 2], [0, 2]), ([3], [3]), ([], []), ([5], [5]), ([], []), ([7], [7]), ([4, 6, 8], [4, 6, 8]), ([9], [9]), ([10], [10]), ([10], [10]), ([11, 9, 0, 1, 2, 3, 4, 5, 6, 7, 8, 9, 10, 11], [11]), ([12, 13, 0, 1, 2, 3, 4, 5, 6, 7, 8, 9, 10, 11, 12, 13], [12])])
def cards_Read.B7 : List Nat := [0, 0, 2, 7, 15, 0, 32, 0, 128, 511, 1023, 2047, 2047, 4095, 16383]
theorem cards_Read.tab7 : rtab .any (opsOf Tryz.f51 7) = cards_Read.T7 := by kernel_rfl
theorem cards_Read.bits7 : ZY cards_Read.T7.2 cards_Read.B7 = true := by kernel_rfl
def cards_Read.T10 : Bool × List (List Nat × List Nat) := (true, [([], []), ([0], [0]), ([1], [1]), ([], []), ([3], [3]), ([4], [4]), ([], []), ([6], [6]), ([7], [7]), ([], []), ([9], [9]), ([10], [10]), ([], []), ([], []), ([13], [13]), ([14], [14]), ([12, 15], [12, 15]), ([16], [16]), ([17], [17]), ([2, 5, 8, 11, 18], [2, 5, 8, 11, 18]), ([], []), ([20, 19, 0, 1, 2, 3, 4, 5, 6, 7, 8, 9, 10, 11, 12, 13, 14, 15, 16, 17, 18, 19, 20], [19, 20])])
def cards_Read.B10 : List Nat := [0, 1, 3, 0, 8, 24, 0, 64, 192, 0, 512, 1536, 0, 0, 8192, 24576, 61440, 126976, 258048, 524287, 0, 2097151]
theorem cards_Read.tab10 : rtab .any (opsOf Tryz.f51 10) = cards_Read.T10 := by kernel_rfl
theorem cards_Read.bits10 : ZY cards_Read.T10.2 cards_Read.B10 = true := by kernel_rfl
set_option maxHeartbeats 8000000 in
set_option maxRecDepth 100000 in
theorem cards_Read.calls (k : Nat) (A0 : Option Addr) (c0 : Nat) (l0 : List Int) (r1 : Int) (r2 : Int) (r3 : Int) (r4 : Int) (r5 : Int) (r6 : Int) (r7 : Int) (r8 : Int) (r9 : Int) (r10 : Int) (r11 : Int) (w : World) (hr0 : Kd.C (Kd.int .u64) w A0 l0.length l0) (hc0 : l0.length ≤ c0) (h : cards_Read.f k l0 = some (r1, r2, r3, r4, r5, r6, r7, r8, r9, r10, r11)) :
  Calls Tryz.prog 51 #[.slice A0 l0.length c0] w fun e w' => e = .returned (.tuple #[.agg #[.int .i64 r1, .int .i64 r2, .int .i64 r3, .int .u64 r4, .int .i64 r5, .int .i64 r6, .int .i64 r7, .int .i64 r8, .int .i64 r9, .int .i64 r10], .int .i64 r11]) ∧ Below w.heap.size w w' := by
 have hu37 := Tryz.underlying37
 have hu105 := Tryz.underlying105
 have HR0 := ze.mk hr0
 have HC0 := ze.mk hc0
 clear hr0 hc0
 have HB := ze.mk (Below.refl w.heap.size w)
 have H : (if (l0.length : Int) = 8 then ((cards_fields.f k).bind fun Jr => (cards_Read.l0 k l0 ([] : List Int) Jr (Jr.length : Int) 0)) else (some (0, 0, 0, 0, 0, 0, 0, 0, 0, 0, 15))) = some (r1, r2, r3, r4, r5, r6, r7, r8, r9, r10, r11) := h
 clear h
 by_cases c2 : (l0.length : Int) = 8
 ·rw [if_pos c2] at H
  have Jdl : ((l0.length : Int) == 8) = true := beq_iff_eq.mpr c2
  have Jdk : ((l0.length : Int) != 8) = false := bne_eq_false_iff_eq.mpr c2
  clear c2
  replace H := Option.bind_eq_some_iff.mp H
  obtain ⟨Jr, A30, H⟩ := H
  replace H : (cards_Read.l0 k l0 ([] : List Int) Jr (Jr.length : Int) 0) = some (r1, r2, r3, r4, r5, r6, r7, r8, r9, r10, r11) := H
  have A3 := ze.mk A30
  clear A30
  have H' := ze.mk H
  clear H
  go_enter Tryz.func51, Tryz.ntmps51
  go_wp2_with (first | ((with_reducible refine zD (N := 2) rfl ?_); refine zC ?hg (N := 2) ?hd (cs := #[.int .i64 0, .int .i64 0, .int .i64 0, .int .u64 0, .int .i64 0, .int .i64 0, .int .i64 0, .int .i64 0, .int .i64 0, .int .i64 0]) (t := 37) ?hr ?_; (case hd => rfl); (case hg => rfl); (case hr => first | (go_simp; done) | (go_simp; rfl)); intro Jf hg w4 hbox hb; have n0_ := ze.mk (zu (by repeat (first | (with_reducible first | exact HB.o | apply zl | apply zf | apply zk) | exact HB.o)) hb); have n1_ := ze.mk (hbox); have n2_ := ze.mk ((by rw [hg]; exact (zt (by repeat (first | (with_reducible first | exact HB.o | apply zl | apply zf | apply zk) | exact HB.o))) : w.heap.size ≤ Jf)); have n3_ := ze.mk ((by rw [hg]; exact (zt (by repeat (first | (with_reducible first | exact HB.o | apply zl | apply zf | apply zk) | exact HB.o))) : w.heap.size ≤ Jf)); clear HB; have HB := n0_; have Jj := n1_; have JdH := n2_; have Js := n3_; clear n0_ n1_ n2_ n3_; clear hb hbox hg) | ((with_reducible refine zN (f := 67) rfl ?_); refine yh (some 17) rfl rfl Tryz.func67 (by kernel_rfl) rfl #[] rfl (by (try simp only [List.map_toArray, List.map_cons, List.map_nil]); first | done | rfl | (simp only [List.length_drop, List.length_take]; rfl)) ?_; (with_reducible refine (cards_fields.calls k  Jr _ A3.o).mono ?_); rintro e w5 ⟨v198, rfl, ho0, hb⟩; refine ⟨_, rfl, ?_⟩; have n0_ := ze.mk (Kd.yf ho0 (zt (by repeat (first | (with_reducible first | exact HB.o | apply zl | apply zf | apply zk | refine zm ?_ Js.o) | exact HB.o)))); have n1_ := ze.mk (zK (g := Jf) (o := .cells #[.int .i64 0, .int .i64 0, .int .i64 0, .int .u64 0, .int .i64 0, .int .i64 0, .int .i64 0, .int .i64 0, .int .i64 0, .int .i64 0] 37 (0, 0)) (by (with_reducible repeat (first | refine zg ?_ _ | refine zi ?_ | refine zh ?_ _)); exact Jj.o) hb); have n2_ := ze.mk (zu (by repeat (first | (with_reducible first | exact HB.o | apply zl | apply zf | apply zk | refine zm ?_ Js.o) | exact HB.o)) hb); clear Jj; clear HB; have Gt := n0_; have Jj := n1_; have HB := n2_; clear n0_ n1_ n2_; (try clear hb); (try clear hb2); (try clear hk); (try clear hi); (try clear ho0); obtain ⟨Ao6, co6, eo6⟩ := Kd.yc Gt.o; subst eo6))
  go_loopg [4, 19] k (fun kq v4 v19 w' => ∃ (Jd : List Int) (Jo : Int), v19 = .int .i64 Jo ∧ ze (cards_Read.l0 kq l0 Jd Jr (Jr.length : Int) Jo = some (r1, r2, r3, r4, r5, r6, r7, r8, r9, r10, r11)) ∧ ze (kq ≤ k) ∧ ze (Kd.R (Kd.int .i64) 3 w' w.heap.size (fun _ => True) v4 Jd) ∧ ze (Kd.R k105 105 w' w.heap.size (fun _ => True) (.slice Ao6 Jr.length co6) Jr) ∧ ze (w'.heap[Jf]? = some (.cells #[.int .i64 0, .int .i64 0, .int .i64 0, .int .u64 0, .int .i64 0, .int .i64 0, .int .i64 0, .int .i64 0, .int .i64 0, .int .i64 0] 37 (0, 0))) ∧ ze (Below w.heap.size w w'))
  case atStart => exact ⟨(([] : List Int)), (0), (by first | rfl | (simp; done) | (simp [*]; done) | kernel_rfl), H', ⟨Nat.le_refl _⟩, ⟨by first | exact Kd.R_nil _ _ _ _ _ | exact Kd.N_nil _ _ _ _ _ | exact Kd.V_nil _ _ _ _ _ | exact Kd.Q_nil _ _ _ _ _ | exact Kd.S_nil _ _ _ _ _⟩, ⟨by (with_reducible repeat (first | apply Kd.zz | apply Kd.zA | apply Kd.zF)); exact Gt.o⟩, ⟨by (with_reducible repeat (first | refine zg ?_ _ | refine zi ?_ | refine zh ?_ _)); exact Jj.o⟩, ⟨by repeat (first | (with_reducible first | exact HB.o | apply zl | apply zf | apply zk | refine zm ?_ Js.o) | exact HB.o)⟩⟩
  case round =>
   clear H'
   try clear c2
   try clear Jdl
   try clear Jdk
   try clear p2
   try clear c5
   try clear c6
   obtain ⟨Jd, Jo, rfl, HA, HK1, Jl, Jz, Jj, HB⟩ := hrel
   cases gk with
   | zero => exact absurd HA.o (by simp [cards_Read.l0])
   | succ k1 =>
    have H := HA.o
    clear HA
    simp only [cards_Read.l0] at H
    by_cases c7 : Jo < (Jr.length : Int)
    ·rw [if_pos c7] at H
     have c7b0 : decide (Jo < (Jr.length : Int)) = true := decide_eq_true c7
     clear c7
     by_cases c8 : 0 ≤ Jo
     ·rw [if_pos c8] at H
      have c8b0 : decide (0 ≤ Jo) = true := decide_eq_true c8
      clear c8
      by_cases c9 : Jo < (Jr.length : Int)
      ·rw [if_pos c9] at H
       have c9b0 : decide (Jo < (Jr.length : Int)) = true := decide_eq_true c9
       clear c9
       by_cases c10 : 0 ≤ ((zo Jr Jo).f0)
       ·rw [if_pos c10] at H
        have Jdx : decide (0 ≤ ((zo Jr Jo).f0)) = true := decide_eq_true c10
        clear c10
        by_cases c11 : ((zo Jr Jo).f0) < (l0.length : Int)
        ·rw [if_pos c11] at H
         have Jdw : decide (((zo Jr Jo).f0) < (l0.length : Int)) = true := decide_eq_true c11
         clear c11
         replace H := Option.bind_eq_some_iff.mp H
         obtain ⟨⟨t203, t204⟩, A120, H⟩ := H
         replace H : (if Jd.length < 17592186044416 then (cards_Read.l0 k1 l0 (Jd ++ [wrap64 (t203)]) Jr (Jr.length : Int) (wrap64 (Jo + 1))) else (none)) = some (r1, r2, r3, r4, r5, r6, r7, r8, r9, r10, r11) := H
         have A12 := ze.mk A120
         clear A120
         by_cases c13 : Jd.length < 17592186044416
         ·rw [if_pos c13] at H
          have JdF := ze.mk c13
          clear c13
          obtain ⟨y205, J5⟩ : ∃ y_ : List Int, y_ = (Jd ++ [wrap64 (t203)]) := ⟨_, rfl⟩
          replace H : (cards_Read.l0 k1 l0 y205 Jr (Jr.length : Int) (wrap64 (Jo + 1))) = some (r1, r2, r3, r4, r5, r6, r7, r8, r9, r10, r11) := by first | (rw [J5]; with_reducible exact H) | (have H2_ := (Option.bind_some _ _).symm.trans H; rw [J5]; with_reducible exact H2_) | (have H2_ := (Option.bind_some _ _).symm.trans H; with_reducible exact H2_) | with_reducible exact H | (rw [J5]; exact H) | exact H
          have JdE := ze.mk J5
          clear J5
          have H' := ze.mk H
          clear H
          have GM : 0 ≤ (Jo : Int) := of_decide_eq_true (by first | (with_reducible assumption) | assumption)
          have GD : Jo < (Jr.length : Int) := of_decide_eq_true (by first | (with_reducible assumption) | assumption)
          obtain ⟨JdD, e200, Gg, Gf, Gd⟩ := Yk (Kd.zQ Jz.o).2.2 Jo GM GD
          cases e200
          replace GM := eq_true GM
          replace GD := eq_true GD
          try go_wp2_with (first | ((with_reducible refine zD (N := 6) rfl ?_); refine zC ?hg (N := 6) ?hd (cs := #[.int .i64 0, .int .i64 0, .int .i64 0]) (t := 105) ?hr ?_; (case hd => rfl); (case hg => rfl); (case hr => first | (go_simp; done) | (go_simp; rfl)); intro Jq hg w14 hbox hb; have n0_ := ze.mk (Kd.zS (by (with_reducible repeat (first | apply Kd.zz | apply Kd.zA | apply Kd.zF)); exact Jl.o) hb); have n1_ := ze.mk (Kd.zS (Kd.yF (by (with_reducible repeat (first | apply Kd.zz | apply Kd.zA | apply Kd.zF)); exact Jz.o) Jq (Nat.le_of_eq hg.symm)) hb); have n2_ := ze.mk (zK (g := Jf) (o := .cells #[.int .i64 0, .int .i64 0, .int .i64 0, .int .u64 0, .int .i64 0, .int .i64 0, .int .i64 0, .int .i64 0, .int .i64 0, .int .i64 0] 37 (0, 0)) (by (with_reducible repeat (first | refine zg ?_ _ | refine zi ?_ | refine zh ?_ _)); exact Jj.o) hb); have n3_ := ze.mk (zu (by repeat (first | (with_reducible first | exact HB.o | apply zl | apply zf | apply zk | refine zm ?_ Js.o) | exact HB.o)) hb); have n4_ := ze.mk (hbox); have n5_ := ze.mk ((by rw [hg]; exact (zt (by repeat (first | (with_reducible first | exact HB.o | apply zl | apply zf | apply zk | refine zm ?_ Js.o) | exact HB.o))) : w.heap.size ≤ Jq)); have n6_ := ze.mk ((by rw [hg]; exact (zt (by repeat (first | (with_reducible first | exact HB.o | apply zl | apply zf | apply zk | refine zm ?_ Js.o) | exact HB.o))) : w.heap.size ≤ Jq)); have n7_ := ze.mk ((by rw [hg]; exact Nat.ne_of_lt (yL (g := Jf) (o := .cells #[.int .i64 0, .int .i64 0, .int .i64 0, .int .u64 0, .int .i64 0, .int .i64 0, .int .i64 0, .int .i64 0, .int .i64 0, .int .i64 0] 37 (0, 0)) (by (with_reducible repeat (first | refine zg ?_ _ | refine zi ?_ | refine zh ?_ _)); exact Jj.o)) : Jf ≠ Jq)); have n8_ := ze.mk ((by rw [hg]; exact Nat.ne_of_gt (yL (g := Jf) (o := .cells #[.int .i64 0, .int .i64 0, .int .i64 0, .int .u64 0, .int .i64 0, .int .i64 0, .int .i64 0, .int .i64 0, .int .i64 0, .int .i64 0] 37 (0, 0)) (by (with_reducible repeat (first | refine zg ?_ _ | refine zi ?_ | refine zh ?_ _)); exact Jj.o)) : Jq ≠ Jf)); clear Jl; clear Jz; clear Jj; clear HB; have Jl := n0_; have Jz := n1_; have Jj := n2_; have HB := n3_; have Jv := n4_; have GW201 := n5_; have J8 := n6_; have JJ := n7_; have J6 := n8_; clear n0_ n1_ n2_ n3_ n4_ n5_ n6_ n7_ n8_; clear hb hbox hg; have hnb15 := J6.o; have hnc15 := JJ.o; have Gn : w14.cell? ⟨Jq, 0, none⟩ = some (.int .i64 0) := (zb Jv.o 0).trans rfl; have Gm : w14.cell? ⟨Jq, 1, none⟩ = some (.int .i64 0) := (zb Jv.o 1).trans rfl; have Gl : w14.cell? ⟨Jq, 2, none⟩ = some (.int .i64 0) := (zb Jv.o 2).trans rfl; have Gj := za Jv.o 0; have Gi := za Jv.o 1; have Gh := za Jv.o 2))
          have n0_ : ze (Kd.R (Kd.int .i64) 3 (((w14.setCell ⟨Jq, 0, none⟩ (.int .i64 ((zo Jr Jo).f0))).setCell ⟨Jq, 1, none⟩ (.int .i64 ((zo Jr Jo).f1))).setCell ⟨Jq, 2, none⟩ (.int .i64 ((zo Jr Jo).f2))) w.heap.size (fun _ => True) u4 Jd) := ⟨by (with_reducible repeat (first | apply Kd.zz | apply Kd.zA | apply Kd.zF)); exact Kd.zT (Kd.R_far (p := ⟨Jq, 2, none⟩) (Kd.R_far (p := ⟨Jq, 1, none⟩) (Kd.R_far (p := ⟨Jq, 0, none⟩) (Kd.yD Jl.o Jv.o (by decide)) (fun _ hk => hk.2) (.int .i64 ((zo Jr Jo).f0))) (fun _ hk => hk.2) (.int .i64 ((zo Jr Jo).f1))) (fun _ hk => hk.2) (.int .i64 ((zo Jr Jo).f2))) (fun _ hk => trivial)⟩
          have n1_ : ze (Kd.R k105 105 (((w14.setCell ⟨Jq, 0, none⟩ (.int .i64 ((zo Jr Jo).f0))).setCell ⟨Jq, 1, none⟩ (.int .i64 ((zo Jr Jo).f1))).setCell ⟨Jq, 2, none⟩ (.int .i64 ((zo Jr Jo).f2))) w.heap.size (fun k_ => k_ ≠ Jq) (.slice (some JdD) Jr.length co6) Jr) := ⟨by (with_reducible repeat (first | apply Kd.zz | apply Kd.zA | apply Kd.zF)); exact Kd.zT (Kd.R_far (p := ⟨Jq, 2, none⟩) (Kd.R_far (p := ⟨Jq, 1, none⟩) (Kd.R_far (p := ⟨Jq, 0, none⟩) (Kd.zT Jz.o (fun k_ hk => (⟨hk, hk.2⟩ : _ ∧ k_ ≠ Jq))) (fun _ hk => hk.2) (.int .i64 ((zo Jr Jo).f0))) (fun _ hk => hk.2) (.int .i64 ((zo Jr Jo).f1))) (fun _ hk => hk.2) (.int .i64 ((zo Jr Jo).f2))) (fun _ hk => hk.1.2)⟩
          have n2_ : ze ((((w14.setCell ⟨Jq, 0, none⟩ (.int .i64 ((zo Jr Jo).f0))).setCell ⟨Jq, 1, none⟩ (.int .i64 ((zo Jr Jo).f1))).setCell ⟨Jq, 2, none⟩ (.int .i64 ((zo Jr Jo).f2))).heap[Jf]? = some (.cells #[.int .i64 0, .int .i64 0, .int .i64 0, .int .u64 0, .int .i64 0, .int .i64 0, .int .i64 0, .int .i64 0, .int .i64 0, .int .i64 0] 37 (0, 0))) := ⟨by (with_reducible repeat (first | refine zg ?_ _ | refine zi ?_ | refine zh ?_ _)); refine zB ?_ JJ.o _; (with_reducible repeat (first | refine zg ?_ _ | refine zi ?_ | refine zh ?_ _)); refine zB ?_ JJ.o _; (with_reducible repeat (first | refine zg ?_ _ | refine zi ?_ | refine zh ?_ _)); refine zB ?_ JJ.o _; (with_reducible repeat (first | refine zg ?_ _ | refine zi ?_ | refine zh ?_ _)); exact Jj.o⟩
          have n3_ : ze ((((w14.setCell ⟨Jq, 0, none⟩ (.int .i64 ((zo Jr Jo).f0))).setCell ⟨Jq, 1, none⟩ (.int .i64 ((zo Jr Jo).f1))).setCell ⟨Jq, 2, none⟩ (.int .i64 ((zo Jr Jo).f2))).heap[Jq]? = some (.cells #[.int .i64 ((zo Jr Jo).f0), .int .i64 ((zo Jr Jo).f1), .int .i64 ((zo Jr Jo).f2)] 105 (0, 0))) := ⟨by (with_reducible repeat (first | refine zg ?_ _ | refine zi ?_ | refine zh ?_ _)); refine zq (cs := #[.int .i64 ((zo Jr Jo).f0), .int .i64 ((zo Jr Jo).f1), .int .i64 0]) ?_ 2 _ rfl; (with_reducible repeat (first | refine zg ?_ _ | refine zi ?_ | refine zh ?_ _)); refine zq (cs := #[.int .i64 ((zo Jr Jo).f0), .int .i64 0, .int .i64 0]) ?_ 1 _ rfl; (with_reducible repeat (first | refine zg ?_ _ | refine zi ?_ | refine zh ?_ _)); refine zq (cs := #[.int .i64 0, .int .i64 0, .int .i64 0]) ?_ 0 _ rfl; (with_reducible repeat (first | refine zg ?_ _ | refine zi ?_ | refine zh ?_ _)); exact Jv.o⟩
          have n4_ : ze (Below w.heap.size w (((w14.setCell ⟨Jq, 0, none⟩ (.int .i64 ((zo Jr Jo).f0))).setCell ⟨Jq, 1, none⟩ (.int .i64 ((zo Jr Jo).f1))).setCell ⟨Jq, 2, none⟩ (.int .i64 ((zo Jr Jo).f2)))) := ⟨by repeat (first | (with_reducible first | exact HB.o | apply zl | apply zf | apply zk | refine zm ?_ Js.o | refine zm ?_ J8.o) | exact HB.o)⟩
          (try clear Jl)
          (try clear Jz)
          (try clear Jj)
          (try clear Jv)
          (try clear HB)
          generalize (((w14.setCell ⟨Jq, 0, none⟩ (.int .i64 ((zo Jr Jo).f0))).setCell ⟨Jq, 1, none⟩ (.int .i64 ((zo Jr Jo).f1))).setCell ⟨Jq, 2, none⟩ (.int .i64 ((zo Jr Jo).f2))) = w17 at n0_ n1_ n2_ n3_ n4_ ⊢
          have Jl := n0_
          have Jz := n1_
          have Jj := n2_
          have Jv := n3_
          have HB := n4_
          clear n0_ n1_ n2_ n3_ n4_
          have n0_ := ze.mk (Kd.zF Jl.o)
          have n1_ := ze.mk (Kd.zF Jz.o)
          have n2_ := ze.mk (zi Jj.o)
          have n3_ := ze.mk (zi Jv.o)
          have n4_ := ze.mk (zk HB.o)
          clear Jl
          clear Jz
          clear Jj
          clear Jv
          clear HB
          have Jl := n0_
          have Jz := n1_
          have Jj := n2_
          have Jv := n3_
          have HB := n4_
          clear n0_ n1_ n2_ n3_ n4_
          have GL : 0 ≤ (((zo Jr Jo).f0) : Int) := of_decide_eq_true (by first | (with_reducible assumption) | assumption)
          have Gz : ((zo Jr Jo).f0) < (l0.length : Int) := of_decide_eq_true (by first | (with_reducible assumption) | assumption)
          obtain ⟨JdC, e202, JP⟩ := Kd.zX HR0.o ((zo Jr Jo).f0) GL Gz
          have JW := JP
          cases e202
          replace JP := (HB.o.cell (World.block_lt_of_cell? w _ JP)).trans JP
          replace GL := eq_true GL
          replace Gz := eq_true Gz
          refine Yu (n := 15) (S := fun w' => w'.cell? ⟨Jq, 0, none⟩ = some (.int .i64 ((zo Jr Jo).f0)) ∧ w'.cell? ⟨Jq, 1, none⟩ = some (.int .i64 ((zo Jr Jo).f1)) ∧ w'.cell? ⟨Jq, 2, none⟩ = some (.int .i64 ((zo Jr Jo).f2)) ∧ w'.cell? (JdC.add (((zo Jr Jo).f0)).toNat) = some (.int .u64 (rd l0 ((zo Jr Jo).f0)))) (ds := []) #[false, false, false, false, false, false, false, false, false, false, false, false, false, false, false] (by kernel_rfl) rfl rfl ⟨(zb Jv.o 0).trans rfl, (zb Jv.o 1).trans rfl, (zb Jv.o 2).trans rfl, ((HB.o.cell (World.block_lt_of_cell? w _ JW)).trans JW)⟩ (fun hHeld => ?_); refine Zu cards_Read.tab7 cards_Read.bits7 (fun HT_ HW_ => ?_)
          generalize w17.drew = w18 at Jl Jz Jj Jv HB JP hHeld ⊢
          refine pure_ (i := 0) (N := some 24) (v := ?_) (a' := ?_) #[true, false, false, false, false, false, false, false, false, false, false, false, false, false, false] rfl rfl (zO HT_.o (by kernel_rfl)) (fun _ _ _ h => h) (Or.inl ⟨by rfl, ?_⟩) ?_ ?_
          rotate_left
          ·intro w'
           go_simp
           with_reducible rfl
          rotate_left
          ·simp only [Act.put, List.setIfInBounds_toArray, List.set_cons_zero, List.set_cons_succ, i64_w, i32_w]
           rfl
          refine pure_ (i := 1) (N := some 25) (v := ?_) (a' := ?_) #[true, true, false, false, false, false, false, false, false, false, false, false, false, false, false] rfl rfl (zO HT_.o (by kernel_rfl)) (fun _ _ _ h => h) (Or.inl ⟨by rfl, ?_⟩) ?_ ?_
          rotate_left
          ·intro w'
           go_simp
           with_reducible rfl
          rotate_left
          ·simp only [Act.put, List.setIfInBounds_toArray, List.set_cons_zero, List.set_cons_succ, i64_w, i32_w]
           rfl
          refine pure_ (i := 5) (N := some 29) (v := ?_) (a' := ?_) #[true, true, false, false, false, true, false, false, false, false, false, false, false, false, false] rfl rfl (zO HT_.o (by kernel_rfl)) (fun _ _ _ h => h) (Or.inl ⟨by rfl, ?_⟩) ?_ ?_
          rotate_left
          ·intro w'
           go_simp
           with_reducible rfl
          rotate_left
          ·simp only [Act.put, List.setIfInBounds_toArray, List.set_cons_zero, List.set_cons_succ, i64_w, i32_w]
           rfl
          refine pure_ (i := 7) (N := some 31) (v := ?_) (a' := ?_) #[true, true, false, false, false, true, false, true, false, false, false, false, false, false, false] rfl rfl (zO HT_.o (by kernel_rfl)) (fun _ _ _ h => h) (Or.inl ⟨by rfl, ?_⟩) ?_ ?_
          rotate_left
          ·intro w'
           go_simp
           with_reducible rfl
          rotate_left
          ·simp only [Act.put, List.setIfInBounds_toArray, List.set_cons_zero, List.set_cons_succ, i64_w, i32_w]
           rfl
          refine take_ (i := 2) (N := some 26) (v := ?_) (a' := ?_) #[true, true, true, false, false, true, false, true, false, false, false, false, false, false, false] rfl rfl (yt HT_.o HW_.o (by kernel_rfl)) (fun _ _ _ h => h) (Or.inl ⟨by rfl, ?_⟩) hHeld ?_ ?_
          rotate_left
          ·rintro w' ⟨s0, s1, s2, s3⟩
           go_simp
           with_reducible rfl
          rotate_left
          ·simp only [Act.put, List.setIfInBounds_toArray, List.set_cons_zero, List.set_cons_succ, i64_w, i32_w]
           rfl
          refine pure_ (i := 3) (N := some 27) (v := ?_) (a' := ?_) #[true, true, true, true, false, true, false, true, false, false, false, false, false, false, false] rfl rfl (zO HT_.o (by kernel_rfl)) (fun _ _ _ h => h) (Or.inl ⟨by rfl, ?_⟩) ?_ ?_
          rotate_left
          ·intro w'
           go_simp
           with_reducible rfl
          rotate_left
          ·simp only [Act.put, List.setIfInBounds_toArray, List.set_cons_zero, List.set_cons_succ, i64_w, i32_w]
           rfl
          refine take_ (i := 4) (N := some 28) (v := ?_) (a' := ?_) #[true, true, true, true, true, true, false, true, false, false, false, false, false, false, false] rfl rfl (yt HT_.o HW_.o (by kernel_rfl)) (fun _ _ _ h => h) (Or.inl ⟨by rfl, ?_⟩) hHeld ?_ ?_
          rotate_left
          ·rintro w' ⟨s0, s1, s2, s3⟩
           go_simp
           with_reducible rfl
          rotate_left
          ·simp only [Act.put, List.setIfInBounds_toArray, List.set_cons_zero, List.set_cons_succ, i64_w, i32_w]
           rfl
          refine take_ (i := 6) (N := some 30) (v := ?_) (a' := ?_) #[true, true, true, true, true, true, true, true, false, false, false, false, false, false, false] rfl rfl (yt HT_.o HW_.o (by kernel_rfl)) (fun _ _ _ h => h) (Or.inl ⟨by rfl, ?_⟩) hHeld ?_ ?_
          rotate_left
          ·rintro w' ⟨s0, s1, s2, s3⟩
           go_simp
           with_reducible rfl
          rotate_left
          ·simp only [Act.put, List.setIfInBounds_toArray, List.set_cons_zero, List.set_cons_succ, i64_w, i32_w]
           rfl
          refine take_ (i := 8) (N := some 32) (v := ?_) (a' := ?_) #[true, true, true, true, true, true, true, true, true, false, false, false, false, false, false] rfl rfl (yt HT_.o HW_.o (by kernel_rfl)) (fun _ _ _ h => h) (Or.inl ⟨by rfl, ?_⟩) hHeld ?_ ?_
          rotate_left
          ·rintro w' ⟨s0, s1, s2, s3⟩
           go_simp
           with_reducible rfl
          rotate_left
          ·simp only [Act.put, List.setIfInBounds_toArray, List.set_cons_zero, List.set_cons_succ, i64_w, i32_w]
           rfl
          refine one_ (i := 9) (N := some 33) #[true, true, true, true, true, true, true, true, true, true, false, false, false, false, false] rfl rfl (YE HT_.o (by kernel_rfl)) (by decide) (fun K hK => ?_)
          refine goes_ Tryz.func68 (by kernel_rfl) rfl #[.int .u64 (rd l0 ((zo Jr Jo).f0)), .int .i64 ((zo Jr Jo).f1), .int .i64 ((zo Jr Jo).f2)] (by rfl) rfl rfl (by (try simp only [List.map_toArray, List.map_cons, List.map_nil]); first | done | rfl | (simp only [List.length_drop, List.length_take]; rfl)) ?_
          with_reducible refine (words_Get.calls (rd l0 ((zo Jr Jo).f0)) ((zo Jr Jo).f1) ((zo Jr Jo).f2) t203 t204 _ A12.o).mono ?_
          rintro e w' ⟨rfl, ⟨nd, rfl⟩⟩
          refine ⟨_, rfl, ?_⟩
          refine hK.out _ _ ⟨(zb Jv.o 0).trans rfl, (zb Jv.o 1).trans rfl, (zb Jv.o 2).trans rfl, ((HB.o.cell (World.block_lt_of_cell? w _ JW)).trans JW)⟩ (fun hHeld => ?_)
          clear hK K
          refine norm_ (a' := ?_) ?_ ?_
          rotate_left
          ·show Act.put _ (some 33) _ = _
           simp only [Act.put, List.setIfInBounds_toArray, List.set_cons_zero, List.set_cons_succ, i64_w, i32_w]
           rfl
          refine pure_ (i := 10) (N := some 23) (v := ?_) (a' := ?_) #[true, true, true, true, true, true, true, true, true, true, true, false, false, false, false] rfl rfl (zO HT_.o (by kernel_rfl)) (fun _ _ _ h => h) (Or.inl ⟨by rfl, ?_⟩) ?_ ?_
          rotate_left
          ·intro w'
           go_simp
           with_reducible rfl
          rotate_left
          ·simp only [Act.put, List.setIfInBounds_toArray, List.set_cons_zero, List.set_cons_succ, i64_w, i32_w]
           rfl
          refine pure_ (i := 11) (N := some 34) (v := ?_) (a' := ?_) #[true, true, true, true, true, true, true, true, true, true, true, true, false, false, false] rfl rfl (zO HT_.o (by kernel_rfl)) (fun _ _ _ h => h) (Or.inl ⟨by rfl, ?_⟩) ?_ ?_
          rotate_left
          ·intro w'
           go_simp
           with_reducible rfl
          rotate_left
          ·simp only [Act.put, List.setIfInBounds_toArray, List.set_cons_zero, List.set_cons_succ, i64_w, i32_w]
           rfl
          refine pure_ (i := 12) (N := some 35) (v := ?_) (a' := ?_) #[true, true, true, true, true, true, true, true, true, true, true, true, true, false, false] rfl rfl (zO HT_.o (by kernel_rfl)) (fun _ _ _ h => h) (Or.inl ⟨by rfl, ?_⟩) ?_ ?_
          rotate_left
          ·intro w'
           go_simp
           with_reducible rfl
          rotate_left
          ·simp only [Act.put, List.setIfInBounds_toArray, List.set_cons_zero, List.set_cons_succ, i64_w, i32_w]
           rfl
          refine pure_ (i := 13) (N := some 7) (v := ?_) (a' := ?_) #[true, true, true, true, true, true, true, true, true, true, true, true, true, true, false] rfl rfl (zO HT_.o (by kernel_rfl)) (fun _ _ _ h => h) (Or.inl ⟨by rfl, ?_⟩) ?_ ?_
          rotate_left
          ·intro w'
           go_simp
           with_reducible rfl
          rotate_left
          ·simp only [Act.put, List.setIfInBounds_toArray, List.set_cons_zero, List.set_cons_succ, i64_w, i32_w]
           rfl
          refine pure_ (i := 14) (N := some 8) (v := ?_) (a' := ?_) #[true, true, true, true, true, true, true, true, true, true, true, true, true, true, true] rfl rfl (zO HT_.o (by kernel_rfl)) (fun _ _ _ h => h) (Or.inl ⟨by rfl, ?_⟩) ?_ ?_
          rotate_left
          ·intro w'
           go_simp
           with_reducible rfl
          rotate_left
          ·simp only [Act.put, List.setIfInBounds_toArray, List.set_cons_zero, List.set_cons_succ, i64_w, i32_w]
           rfl
          refine done_ (Yf HT_.o (by kernel_rfl)) ?_
          try go_wp2_with (first | ((with_reducible refine yo (b := .append) (xs := #[.tmp 36, .tmp 39]) rfl ?_); at_builtin; refine Kd.YI (Kd.int .i64) (w0 := w) w.heap.size rfl (.tmp 36) (.tmp 39) 38 3 (.int .i64 0) 8 rfl Tryz.underlying38 info3 rfl (by decide) (by omega) u4 Jd (wrap64 (t203)) [.int .i64 (wrap64 (t203))] (fun _ => True) (fun _ => False) rfl rfl ?aP (fun _ hk => hk.elim) ?aF ?aO ?aB ?aS ?aL ?_; (case aP => exact rfl); (case aB => exact (by repeat (first | (with_reducible first | exact HB.o | apply zl | apply zf | apply zk | refine zm ?_ Js.o | refine zm ?_ J8.o) | exact HB.o))); (case aF => exact (fun _ _ => trivial)); (case aO => exact (by (with_reducible repeat (first | apply Kd.zz | apply Kd.zA | apply Kd.zF)); exact Jl.o)); (case aS => exact (zt (by repeat (first | (with_reducible first | exact HB.o | apply zl | apply zf | apply zk | refine zm ?_ Js.o | refine zm ?_ J8.o) | exact HB.o)))); (case aL => have := JdF.o; omega); intro v206 w19 ho hb hg hat; rw [← JdE.o] at ho; have n0_ := ze.mk (Kd.Yn (by (with_reducible repeat (first | apply Kd.zz | apply Kd.zA | apply Kd.zF)); exact Jz.o) (Kd.Ym (by (with_reducible repeat (first | apply Kd.zz | apply Kd.zA | apply Kd.zF)); exact Jl.o)) (by decide) hg); have n1_ := ze.mk (yA (g := Jf) (o := .cells #[.int .i64 0, .int .i64 0, .int .i64 0, .int .u64 0, .int .i64 0, .int .i64 0, .int .i64 0, .int .i64 0, .int .i64 0, .int .i64 0] 37 (0, 0)) (by (with_reducible repeat (first | refine zg ?_ _ | refine zi ?_ | refine zh ?_ _)); exact Jj.o) hg (Kd.R_ne Jl.o Jj.o (by decide))); have n2_ := ze.mk (yA (g := Jq) (o := .cells #[.int .i64 ((zo Jr Jo).f0), .int .i64 ((zo Jr Jo).f1), .int .i64 ((zo Jr Jo).f2)] 105 (0, 0)) (by (with_reducible repeat (first | refine zg ?_ _ | refine zi ?_ | refine zh ?_ _)); exact Jv.o) hg (Kd.R_ne Jl.o Jv.o (by decide))); have n3_ := ze.mk (hb); have n4_ := ze.mk (ho); clear Jz; clear Jj; clear Jv; clear HB; clear Jl; have Jz := n0_; have Jj := n1_; have Jv := n2_; have HB := n3_; have JdG := n4_; clear n0_ n1_ n2_ n3_ n4_; clear ho hb hg hat))
          go_roundg k1
          case measure => have := HK1.o; omega
          case rel => exact ⟨(y205), (wrap64 (Jo + 1)), (by first | rfl | (simp; done) | (simp [*]; done) | kernel_rfl), H', ⟨by have := HK1.o; omega⟩, ⟨by (with_reducible repeat (first | apply Kd.zz | apply Kd.zA | apply Kd.zF)); exact JdG.o⟩, ⟨by (with_reducible repeat (first | apply Kd.zz | apply Kd.zA | apply Kd.zF)); exact Kd.zT Jz.o (fun _ hk => trivial)⟩, ⟨by (with_reducible repeat (first | refine zg ?_ _ | refine zi ?_ | refine zh ?_ _)); exact Jj.o⟩, ⟨by repeat (first | (with_reducible first | exact HB.o | apply zl | apply zf | apply zk | refine zm ?_ Js.o | refine zm ?_ J8.o) | exact HB.o)⟩⟩
         ·rw [if_neg c13] at H
          exact absurd H (by simp)
        ·rw [if_neg c11] at H
         exact absurd H (by simp)
       ·rw [if_neg c10] at H
        exact absurd H (by simp)
      ·rw [if_neg c9] at H
       exact absurd H (by simp)
     ·rw [if_neg c8] at H
      exact absurd H (by simp)
    ·rw [if_neg c7] at H
     have c7b0 : decide (Jo < (Jr.length : Int)) = false := decide_eq_false c7
     clear c7
     by_cases c20 : 0 < (Jd.length : Int)
     ·rw [if_pos c20] at H
      have Jdv : decide (0 < (Jd.length : Int)) = true := decide_eq_true c20
      have Jdu : decide (0 < Jd.length) = true := decide_eq_true (by omega)
      clear c20
      by_cases c21 : 1 < (Jd.length : Int)
      ·rw [if_pos c21] at H
       have Jdt : decide (1 < (Jd.length : Int)) = true := decide_eq_true c21
       have Jds : decide (1 < Jd.length) = true := decide_eq_true (by omega)
       clear c21
       by_cases c22 : 2 < (Jd.length : Int)
       ·rw [if_pos c22] at H
        have Jdr : decide (2 < (Jd.length : Int)) = true := decide_eq_true c22
        have Jdq : decide (2 < Jd.length) = true := decide_eq_true (by omega)
        clear c22
        by_cases c23 : 1 < (l0.length : Int)
        ·rw [if_pos c23] at H
         have Jdp : decide (1 < (l0.length : Int)) = true := decide_eq_true c23
         have Jdo : decide (1 < l0.length) = true := decide_eq_true (by omega)
         clear c23
         obtain ⟨Jt, JX⟩ : ∃ j_ : Int, (wrap64 ((Jd.length : Int) - 1)) = j_ := ⟨_, rfl⟩
         replace H : (if 0 ≤ (Jt) then (if (Jt) < (Jd.length : Int) then (cards_Read.l1 k1 l0 Jd 0 (rd Jd 0) (rd Jd 1) (rd Jd 2) (rd l0 1) 0 0 0 0 0 (wrap64 ((rd Jd (Jt)) - 1))) else (none)) else (none)) = some (r1, r2, r3, r4, r5, r6, r7, r8, r9, r10, r11) := by first | (rw [JX] at H; exact H) | (simp only [JX] at H ⊢; exact H)
         have hji24w : (IntKind.i64.wrap ((Jd.length : Int) - 1)) = Jt := (i64_w _).trans JX
         by_cases c25 : 0 ≤ (Jt)
         ·rw [if_pos c25] at H
          have Jdn : decide (0 ≤ (Jt)) = true := decide_eq_true c25
          clear c25
          by_cases c26 : (Jt) < (Jd.length : Int)
          ·rw [if_pos c26] at H
           have Jdm : decide ((Jt) < (Jd.length : Int)) = true := decide_eq_true c26
           clear c26
           have H' := ze.mk H
           clear H
           try go_wp2
           have n0_ := ze.mk (Kd.zF Jl.o)
           have n1_ := ze.mk (Kd.zF Jz.o)
           have n2_ := ze.mk (zi Jj.o)
           have n3_ := ze.mk (zk HB.o)
           clear Jl
           clear Jz
           clear Jj
           clear HB
           have Jl := n0_
           have Jz := n1_
           have Jj := n2_
           have HB := n3_
           clear n0_ n1_ n2_ n3_
           obtain ⟨Ao28, Gq, eo28⟩ := Kd.yc Jl.o
           (first | subst eo28 | (injection eo28 with f1_ f2_ f3_; have f4_ := f1_.symm; have f5_ := f3_.symm; clear f1_ f2_ f3_; subst f4_; subst f5_))
           have GK : 0 ≤ (0 : Int) := (by omega)
           have Gy : 0 < (Jd.length : Int) := of_decide_eq_true (by first | (with_reducible assumption) | assumption)
           obtain ⟨JA, e208, JS⟩ := Kd.zX (Kd.zQ Jl.o).2.2 0 GK Gy
           cases e208
           have qi208 : (0 < Jd.length) = True := eq_true (by omega)
           (try rw [show ((0 : Int)).toNat = 0 from rfl] at JS)
           (try rw [Addr.add_zero'] at JS)
           replace GK := eq_true GK
           replace Gy := eq_true Gy
           have GJ : 0 ≤ (1 : Int) := (by omega)
           have Gx : 1 < (Jd.length : Int) := of_decide_eq_true (by first | (with_reducible assumption) | assumption)
           obtain ⟨JdB, e209, JR⟩ := Kd.zX (Kd.zQ Jl.o).2.2 1 GJ Gx
           obtain rfl : JA = JdB := (by injection e209)
           (try simp only [show (1 : Int).toNat = 1 from rfl, Nat.reduceMul, Nat.reduceEqDiff, Go.Addr.add, ↓reduceIte] at JR)
           have qi209 : (1 < Jd.length) = True := eq_true (by omega)
           (try rw [show ((1 : Int)).toNat = 1 from rfl] at JR)
           replace GJ := eq_true GJ
           replace Gx := eq_true Gx
           have GI : 0 ≤ (2 : Int) := (by omega)
           have Gw : 2 < (Jd.length : Int) := of_decide_eq_true (by first | (with_reducible assumption) | assumption)
           obtain ⟨JdA, e210, JQ⟩ := Kd.zX (Kd.zQ Jl.o).2.2 2 GI Gw
           obtain rfl : JA = JdA := (by injection e210)
           (try simp only [show (2 : Int).toNat = 2 from rfl, Nat.reduceMul, Nat.reduceEqDiff, Go.Addr.add, ↓reduceIte] at JQ)
           have qi210 : (2 < Jd.length) = True := eq_true (by omega)
           (try rw [show ((2 : Int)).toNat = 2 from rfl] at JQ)
           replace GI := eq_true GI
           replace Gw := eq_true Gw
           have GH : 0 ≤ (1 : Int) := (by omega)
           have Gv : 1 < (l0.length : Int) := of_decide_eq_true (by first | (with_reducible assumption) | assumption)
           obtain ⟨Gs, e211, JC⟩ := Kd.zX HR0.o 1 GH Gv
           have Jn := JC
           (try rw [show ((1 : Int)).toNat = 1 from rfl] at Jn)
           (try rw [show 1 * 1 = 1 from rfl] at Jn)
           (try simp only [Nat.reduceMul, Nat.reduceEqDiff, Go.Addr.add, ↓reduceIte] at Jn)
           cases e211
           (try simp only [show (1 : Int).toNat = 1 from rfl, Nat.reduceMul, Nat.reduceEqDiff, Go.Addr.add, ↓reduceIte] at JC)
           have qi211 : (1 < l0.length) = True := eq_true (by omega)
           (try rw [show ((1 : Int)).toNat = 1 from rfl] at JC)
           replace JC := (HB.o.cell (World.block_lt_of_cell? w _ JC)).trans JC
           replace GH := eq_true GH
           replace Gv := eq_true Gv
           have GG : 0 ≤ ((Jt) : Int) := of_decide_eq_true (by first | (with_reducible assumption) | assumption)
           have Gu : (Jt) < (Jd.length : Int) := of_decide_eq_true (by first | (with_reducible assumption) | assumption)
           obtain ⟨Jdz, e212, J4⟩ := Kd.zX (Kd.zQ Jl.o).2.2 (Jt) GG Gu
           obtain rfl : JA = Jdz := (by injection e212)
           replace GG := eq_true GG
           replace Gu := eq_true Gu
           refine Yu (n := 22) (S := fun w' => w'.cell? JA = some (.int .i64 (rd Jd 0)) ∧ w'.cell? ⟨JA.block, JA.off + 1, none⟩ = some (.int .i64 (rd Jd 1)) ∧ w'.cell? ⟨JA.block, JA.off + 2, none⟩ = some (.int .i64 (rd Jd 2)) ∧ w'.cell? ⟨Gs.block, Gs.off + 1, none⟩ = some (.int .u64 (rd l0 1)) ∧ w'.cell? (JA.add ((Jt)).toNat) = some (.int .i64 (rd Jd (Jt)))) (ds := []) #[false, false, false, false, false, false, false, false, false, false, false, false, false, false, false, false, false, false, false, false, false, false] (by kernel_rfl) rfl rfl ⟨JS, JR, JQ, ((HB.o.cell (World.block_lt_of_cell? w _ Jn)).trans Jn), J4⟩ (fun hHeld => ?_); refine Zu cards_Read.tab10 cards_Read.bits10 (fun HT_ HW_ => ?_)
           generalize wr.drew = w27 at Jl Jz Jj HB JS JR JQ JC J4 hHeld ⊢
           refine pure_ (i := 0) (N := some 42) (v := ?_) (a' := ?_) #[true, false, false, false, false, false, false, false, false, false, false, false, false, false, false, false, false, false, false, false, false, false] rfl rfl (zO HT_.o (by kernel_rfl)) (fun _ _ _ h => h) (Or.inl ⟨by rfl, ?_⟩) ?_ ?_
           rotate_left
           ·intro w'
            go_simp
            with_reducible rfl
           rotate_left
           ·simp only [Act.put, List.setIfInBounds_toArray, List.set_cons_zero, List.set_cons_succ, i64_w, i32_w]
            rfl
           refine pure_ (i := 1) (N := some 43) (v := ?_) (a' := ?_) #[true, true, false, false, false, false, false, false, false, false, false, false, false, false, false, false, false, false, false, false, false, false] rfl rfl (zO HT_.o (by kernel_rfl)) (fun _ _ _ h => h) (Or.inl ⟨by rfl, ?_⟩) ?_ ?_
           rotate_left
           ·intro w'
            go_simp
            with_reducible rfl
           rotate_left
           ·simp only [Act.put, List.setIfInBounds_toArray, List.set_cons_zero, List.set_cons_succ, i64_w, i32_w]
            rfl
           refine pure_ (i := 3) (N := some 45) (v := ?_) (a' := ?_) #[true, true, false, true, false, false, false, false, false, false, false, false, false, false, false, false, false, false, false, false, false, false] rfl rfl (zO HT_.o (by kernel_rfl)) (fun _ _ _ h => h) (Or.inl ⟨by rfl, ?_⟩) ?_ ?_
           rotate_left
           ·intro w'
            go_simp
            with_reducible rfl
           rotate_left
           ·simp only [Act.put, List.setIfInBounds_toArray, List.set_cons_zero, List.set_cons_succ, i64_w, i32_w]
            rfl
           refine pure_ (i := 4) (N := some 46) (v := ?_) (a' := ?_) #[true, true, false, true, true, false, false, false, false, false, false, false, false, false, false, false, false, false, false, false, false, false] rfl rfl (zO HT_.o (by kernel_rfl)) (fun _ _ _ h => h) (Or.inl ⟨by rfl, ?_⟩) ?_ ?_
           rotate_left
           ·intro w'
            go_simp
            with_reducible rfl
           rotate_left
           ·simp only [Act.put, List.setIfInBounds_toArray, List.set_cons_zero, List.set_cons_succ, i64_w, i32_w]
            rfl
           refine pure_ (i := 6) (N := some 48) (v := ?_) (a' := ?_) #[true, true, false, true, true, false, true, false, false, false, false, false, false, false, false, false, false, false, false, false, false, false] rfl rfl (zO HT_.o (by kernel_rfl)) (fun _ _ _ h => h) (Or.inl ⟨by rfl, ?_⟩) ?_ ?_
           rotate_left
           ·intro w'
            go_simp
            with_reducible rfl
           rotate_left
           ·simp only [Act.put, List.setIfInBounds_toArray, List.set_cons_zero, List.set_cons_succ, i64_w, i32_w]
            rfl
           refine pure_ (i := 7) (N := some 49) (v := ?_) (a' := ?_) #[true, true, false, true, true, false, true, true, false, false, false, false, false, false, false, false, false, false, false, false, false, false] rfl rfl (zO HT_.o (by kernel_rfl)) (fun _ _ _ h => h) (Or.inl ⟨by rfl, ?_⟩) ?_ ?_
           rotate_left
           ·intro w'
            go_simp
            with_reducible rfl
           rotate_left
           ·simp only [Act.put, List.setIfInBounds_toArray, List.set_cons_zero, List.set_cons_succ, i64_w, i32_w]
            rfl
           refine pure_ (i := 9) (N := some 51) (v := ?_) (a' := ?_) #[true, true, false, true, true, false, true, true, false, true, false, false, false, false, false, false, false, false, false, false, false, false] rfl rfl (zO HT_.o (by kernel_rfl)) (fun _ _ _ h => h) (Or.inl ⟨by rfl, ?_⟩) ?_ ?_
           rotate_left
           ·intro w'
            go_simp
            with_reducible rfl
           rotate_left
           ·simp only [Act.put, List.setIfInBounds_toArray, List.set_cons_zero, List.set_cons_succ, i64_w, i32_w]
            rfl
           refine pure_ (i := 10) (N := some 52) (v := ?_) (a' := ?_) #[true, true, false, true, true, false, true, true, false, true, true, false, false, false, false, false, false, false, false, false, false, false] rfl rfl (zO HT_.o (by kernel_rfl)) (fun _ _ _ h => h) (Or.inl ⟨by rfl, ?_⟩) ?_ ?_
           rotate_left
           ·intro w'
            go_simp
            with_reducible rfl
           rotate_left
           ·simp only [Act.put, List.setIfInBounds_toArray, List.set_cons_zero, List.set_cons_succ, i64_w, i32_w]
            rfl
           refine pure_ (i := 12) (N := some 54) (v := ?_) (a' := ?_) #[true, true, false, true, true, false, true, true, false, true, true, false, true, false, false, false, false, false, false, false, false, false] rfl rfl (zO HT_.o (by kernel_rfl)) (fun _ _ _ h => h) (Or.inl ⟨by rfl, ?_⟩) ?_ ?_
           rotate_left
           ·intro w'
            go_simp
            with_reducible rfl
           rotate_left
           ·simp only [Act.put, List.setIfInBounds_toArray, List.set_cons_zero, List.set_cons_succ, i64_w, i32_w]
            rfl
           refine pure_ (i := 13) (N := some 55) (v := ?_) (a' := ?_) #[true, true, false, true, true, false, true, true, false, true, true, false, true, true, false, false, false, false, false, false, false, false] rfl rfl (zO HT_.o (by kernel_rfl)) (fun _ _ _ h => h) (Or.inl ⟨by rfl, ?_⟩) ?_ ?_
           rotate_left
           ·intro w'
            go_simp
            with_reducible rfl
           rotate_left
           ·simp only [Act.put, List.setIfInBounds_toArray, List.set_cons_zero, List.set_cons_succ, i64_w, i32_w]
            rfl
           refine pure_ (i := 14) (N := some 56) (v := ?_) (a' := ?_) #[true, true, false, true, true, false, true, true, false, true, true, false, true, true, true, false, false, false, false, false, false, false] rfl rfl (zO HT_.o (by kernel_rfl)) (fun _ _ _ h => h) (Or.inl ⟨by rfl, ?_⟩) ?_ ?_
           rotate_left
           ·intro w'
            go_simp
            with_reducible rfl
           rotate_left
           ·simp only [Act.put, List.setIfInBounds_toArray, List.set_cons_zero, List.set_cons_succ, i64_w, i32_w]
            rfl
           refine pure_ (i := 15) (N := some 57) (v := ?_) (a' := ?_) #[true, true, false, true, true, false, true, true, false, true, true, false, true, true, true, true, false, false, false, false, false, false] rfl rfl (zO HT_.o (by kernel_rfl)) (fun _ _ _ h => h) (Or.inl ⟨by rfl, ?_⟩) ?_ ?_
           rotate_left
           ·intro w'
            go_simp
            with_reducible rfl
           rotate_left
           ·simp only [Act.put, List.setIfInBounds_toArray, List.set_cons_zero, List.set_cons_succ, i64_w, i32_w]
            rfl
           refine pure_ (i := 16) (N := some 58) (v := ?_) (a' := ?_) #[true, true, false, true, true, false, true, true, false, true, true, false, true, true, true, true, true, false, false, false, false, false] rfl rfl (zO HT_.o (by kernel_rfl)) (fun _ _ _ h => h) (Or.inl ⟨by rfl, ?_⟩) ?_ ?_
           rotate_left
           ·intro w'
            go_simp
            with_reducible rfl
           rotate_left
           ·simp only [Act.put, List.setIfInBounds_toArray, List.set_cons_zero, List.set_cons_succ, i64_w, i32_w]
            rfl
           refine take_ (i := 2) (N := some 44) (v := ?_) (a' := ?_) #[true, true, true, true, true, false, true, true, false, true, true, false, true, true, true, true, true, false, false, false, false, false] rfl rfl (yt HT_.o HW_.o (by kernel_rfl)) (fun _ _ _ h => h) (Or.inl ⟨by rfl, ?_⟩) hHeld ?_ ?_
           rotate_left
           ·rintro w' ⟨s0, s1, s2, s3, s4⟩
            go_simp
            with_reducible rfl
           rotate_left
           ·simp only [Act.put, List.setIfInBounds_toArray, List.set_cons_zero, List.set_cons_succ, i64_w, i32_w]
            rfl
           refine take_ (i := 5) (N := some 47) (v := ?_) (a' := ?_) #[true, true, true, true, true, true, true, true, false, true, true, false, true, true, true, true, true, false, false, false, false, false] rfl rfl (yt HT_.o HW_.o (by kernel_rfl)) (fun _ _ _ h => h) (Or.inl ⟨by rfl, ?_⟩) hHeld ?_ ?_
           rotate_left
           ·rintro w' ⟨s0, s1, s2, s3, s4⟩
            go_simp
            with_reducible rfl
           rotate_left
           ·simp only [Act.put, List.setIfInBounds_toArray, List.set_cons_zero, List.set_cons_succ, i64_w, i32_w]
            rfl
           refine take_ (i := 8) (N := some 50) (v := ?_) (a' := ?_) #[true, true, true, true, true, true, true, true, true, true, true, false, true, true, true, true, true, false, false, false, false, false] rfl rfl (yt HT_.o HW_.o (by kernel_rfl)) (fun _ _ _ h => h) (Or.inl ⟨by rfl, ?_⟩) hHeld ?_ ?_
           rotate_left
           ·rintro w' ⟨s0, s1, s2, s3, s4⟩
            go_simp
            with_reducible rfl
           rotate_left
           ·simp only [Act.put, List.setIfInBounds_toArray, List.set_cons_zero, List.set_cons_succ, i64_w, i32_w]
            rfl
           refine take_ (i := 11) (N := some 53) (v := ?_) (a' := ?_) #[true, true, true, true, true, true, true, true, true, true, true, true, true, true, true, true, true, false, false, false, false, false] rfl rfl (yt HT_.o HW_.o (by kernel_rfl)) (fun _ _ _ h => h) (Or.inl ⟨by rfl, ?_⟩) hHeld ?_ ?_
           rotate_left
           ·rintro w' ⟨s0, s1, s2, s3, s4⟩
            go_simp
            with_reducible rfl
           rotate_left
           ·simp only [Act.put, List.setIfInBounds_toArray, List.set_cons_zero, List.set_cons_succ, i64_w, i32_w]
            rfl
           refine take_ (i := 17) (N := some 59) (v := ?_) (a' := ?_) #[true, true, true, true, true, true, true, true, true, true, true, true, true, true, true, true, true, true, false, false, false, false] rfl rfl (yt HT_.o HW_.o (by kernel_rfl)) (fun _ _ _ h => h) (Or.inl ⟨by rfl, ?_⟩) hHeld ?_ ?_
           rotate_left
           ·rintro w' ⟨s0, s1, s2, s3, s4⟩
            go_simp
            with_reducible rfl
           rotate_left
           ·simp only [Act.put, List.setIfInBounds_toArray, List.set_cons_zero, List.set_cons_succ, i64_w, i32_w]
            rfl
           refine pure_ (i := 18) (N := some 60) (v := ?_) (a' := ?_) #[true, true, true, true, true, true, true, true, true, true, true, true, true, true, true, true, true, true, true, false, false, false] rfl rfl (zO HT_.o (by kernel_rfl)) (fun _ _ _ h => h) (Or.inl ⟨by rfl, ?_⟩) ?_ ?_
           rotate_left
           ·intro w'
            go_simp
            with_reducible rfl
           rotate_left
           ·simp only [Act.put, List.setIfInBounds_toArray, List.set_cons_zero, List.set_cons_succ, i64_w, i32_w]
            rfl
           refine pure_ (i := 19) (N := some 61) (v := ?_) (a' := ?_) #[true, true, true, true, true, true, true, true, true, true, true, true, true, true, true, true, true, true, true, true, false, false] rfl rfl (zO HT_.o (by kernel_rfl)) (fun _ _ _ h => h) (Or.inl ⟨by rfl, ?_⟩) ?_ ?_
           rotate_left
           ·intro w'
            go_simp
            with_reducible rfl
           rotate_left
           ·simp only [Act.put, List.setIfInBounds_toArray, List.set_cons_zero, List.set_cons_succ, i64_w, i32_w]
            rfl
           refine one_ (i := 20) (N := some 9) #[true, true, true, true, true, true, true, true, true, true, true, true, true, true, true, true, true, true, true, true, true, false] rfl rfl (YE HT_.o (by kernel_rfl)) (by decide) (fun K hK => ?_)
           refine box_step ?hg (N := 9) ?hd (cs := #[.int .i64 0, .int .i64 0, .int .i64 0, .int .u64 0, .int .i64 0, .int .i64 0, .int .i64 0, .int .i64 0, .int .i64 0, .int .i64 0]) (t := 37) ?hr ?_; (case hd => rfl); (case hg => rfl); (case hr => first | (go_simp; done) | (go_simp; rfl))
           intro Jb hg w29 hbox hb
           have HS0_ := (hb.cell (World.block_lt_of_cell? _ _ (hHeld.1))).trans (hHeld.1)
           have HS1_ := (hb.cell (World.block_lt_of_cell? _ _ (hHeld.2.1))).trans (hHeld.2.1)
           have HS2_ := (hb.cell (World.block_lt_of_cell? _ _ (hHeld.2.2.1))).trans (hHeld.2.2.1)
           have HS4_ := (hb.cell (World.block_lt_of_cell? _ _ (hHeld.2.2.2.2))).trans (hHeld.2.2.2.2)
           have n0_ := ze.mk (Kd.zS (by (with_reducible repeat (first | apply Kd.zz | apply Kd.zA | apply Kd.zF)); exact Jl.o) hb)
           have n1_ := ze.mk (Kd.zS (by (with_reducible repeat (first | apply Kd.zz | apply Kd.zA | apply Kd.zF)); exact Jz.o) hb)
           have n2_ := ze.mk (zK (g := Jf) (o := .cells #[.int .i64 0, .int .i64 0, .int .i64 0, .int .u64 0, .int .i64 0, .int .i64 0, .int .i64 0, .int .i64 0, .int .i64 0, .int .i64 0] 37 (0, 0)) (by (with_reducible repeat (first | refine zg ?_ _ | refine zi ?_ | refine zh ?_ _)); exact Jj.o) hb)
           have n3_ := ze.mk (zu (by repeat (first | (with_reducible first | exact HB.o | apply zl | apply zf | apply zk | refine zm ?_ Js.o) | exact HB.o)) hb)
           have n4_ := ze.mk (hbox)
           have n5_ := ze.mk ((by rw [hg]; exact (zt (by repeat (first | (with_reducible first | exact HB.o | apply zl | apply zf | apply zk | refine zm ?_ Js.o) | exact HB.o))) : w.heap.size ≤ Jb))
           have n6_ := ze.mk ((by rw [hg]; exact (zt (by repeat (first | (with_reducible first | exact HB.o | apply zl | apply zf | apply zk | refine zm ?_ Js.o) | exact HB.o))) : w.heap.size ≤ Jb))
           have n7_ := ze.mk ((by rw [hg]; exact Nat.ne_of_lt (yL (g := Jf) (o := .cells #[.int .i64 0, .int .i64 0, .int .i64 0, .int .u64 0, .int .i64 0, .int .i64 0, .int .i64 0, .int .i64 0, .int .i64 0, .int .i64 0] 37 (0, 0)) (by (with_reducible repeat (first | refine zg ?_ _ | refine zi ?_ | refine zh ?_ _)); exact Jj.o)) : Jf ≠ Jb))
           have n8_ := ze.mk ((by rw [hg]; exact Nat.ne_of_gt (yL (g := Jf) (o := .cells #[.int .i64 0, .int .i64 0, .int .i64 0, .int .u64 0, .int .i64 0, .int .i64 0, .int .i64 0, .int .i64 0, .int .i64 0, .int .i64 0] 37 (0, 0)) (by (with_reducible repeat (first | refine zg ?_ _ | refine zi ?_ | refine zh ?_ _)); exact Jj.o)) : Jb ≠ Jf))
           clear Jl
           clear Jz
           clear Jj
           clear HB
           have Jl := n0_
           have Jz := n1_
           have Jj := n2_
           have HB := n3_
           have Ja := n4_
           have Jp := n5_
           have JB := n6_
           have Jm := n7_
           have Jk := n8_
           clear n0_ n1_ n2_ n3_ n4_ n5_ n6_ n7_ n8_
           clear hb hbox hg
           refine hK.out _ _ ⟨HS0_, HS1_, HS2_, ((HB.o.cell (World.block_lt_of_cell? w _ Jn)).trans Jn), HS4_⟩ (fun hHeld => ?_)
           clear hK K
           refine norm_ (a' := ?_) ?_ ?_
           rotate_left
           ·show Act.put _ (some 9) _ = _
            simp only [Act.put, List.setIfInBounds_toArray, List.set_cons_zero, List.set_cons_succ, i64_w, i32_w]
            rfl
           refine one_ (i := 21) (N := none) #[true, true, true, true, true, true, true, true, true, true, true, true, true, true, true, true, true, true, true, true, true, true] rfl rfl (YE HT_.o (by kernel_rfl)) (by decide) (fun K hK => ?_)
           have hs30 : w29.cell? ⟨Jb, 0, none⟩ = some (.int .i64 0) := (zb Ja.o 0).trans rfl
           have hfs30 := za Ja.o 0
           have G9 := Jm.o
           have Dm := Jk.o
           have hs31 : w29.cell? ⟨Jb, 1, none⟩ = some (.int .i64 0) := (zb Ja.o 1).trans rfl
           have hfs31 := za Ja.o 1
           have G8 := Jm.o
           have Dl := Jk.o
           have hs32 : w29.cell? ⟨Jb, 2, none⟩ = some (.int .i64 0) := (zb Ja.o 2).trans rfl
           have hfs32 := za Ja.o 2
           have G7 := Jm.o
           have Dk := Jk.o
           have hs33 : w29.cell? ⟨Jb, 3, none⟩ = some (.int .u64 0) := (zb Ja.o 3).trans rfl
           have hfs33 := za Ja.o 3
           have G5 := Jm.o
           have Dj := Jk.o
           have hs34 : w29.cell? ⟨Jb, 4, none⟩ = some (.int .i64 0) := (zb Ja.o 4).trans rfl
           have hfs34 := za Ja.o 4
           have GZ := Jm.o
           have Di := Jk.o
           have hs35 : w29.cell? ⟨Jb, 5, none⟩ = some (.int .i64 0) := (zb Ja.o 5).trans rfl
           have hfs35 := za Ja.o 5
           have GY := Jm.o
           have Dh := Jk.o
           have hs36 : w29.cell? ⟨Jb, 6, none⟩ = some (.int .i64 0) := (zb Ja.o 6).trans rfl
           have hfs36 := za Ja.o 6
           have GX := Jm.o
           have Df := Jk.o
           have hs37 : w29.cell? ⟨Jb, 7, none⟩ = some (.int .i64 0) := (zb Ja.o 7).trans rfl
           have hfs37 := za Ja.o 7
           have GV := Jm.o
           have Dc := Jk.o
           have hs38 : w29.cell? ⟨Jb, 8, none⟩ = some (.int .i64 0) := (zb Ja.o 8).trans rfl
           have hfs38 := za Ja.o 8
           have GU := Jm.o
           have Db := Jk.o
           have hs39 : w29.cell? ⟨Jb, 9, none⟩ = some (.int .i64 0) := (zb Ja.o 9).trans rfl
           have hfs39 := za Ja.o 9
           have GR := Jm.o
           have Da := Jk.o
           refine skip_ (w1 := ?_) (by rfl) rfl ?_ ?_
           rotate_left
           ·go_simp
            rfl
           refine hK.out _ _ ⟨((cell_far (p := ⟨Jb, _, none⟩) (by first | exact Kd.zw (Kd.R_ne Jl.o Ja.o (by decide)) | (rw [add_block]; exact Kd.zw (Kd.R_ne Jl.o Ja.o (by decide))) | (show (Addr.add _ _).block ≠ _; rw [add_block]; exact Kd.zw (Kd.R_ne Jl.o Ja.o (by decide))) | (dsimp only; exact Kd.zw (Kd.R_ne Jl.o Ja.o (by decide)))) _).trans (((cell_far (p := ⟨Jb, _, none⟩) (by first | exact Kd.zw (Kd.R_ne Jl.o Ja.o (by decide)) | (rw [add_block]; exact Kd.zw (Kd.R_ne Jl.o Ja.o (by decide))) | (show (Addr.add _ _).block ≠ _; rw [add_block]; exact Kd.zw (Kd.R_ne Jl.o Ja.o (by decide))) | (dsimp only; exact Kd.zw (Kd.R_ne Jl.o Ja.o (by decide)))) _).trans (((cell_far (p := ⟨Jb, _, none⟩) (by first | exact Kd.zw (Kd.R_ne Jl.o Ja.o (by decide)) | (rw [add_block]; exact Kd.zw (Kd.R_ne Jl.o Ja.o (by decide))) | (show (Addr.add _ _).block ≠ _; rw [add_block]; exact Kd.zw (Kd.R_ne Jl.o Ja.o (by decide))) | (dsimp only; exact Kd.zw (Kd.R_ne Jl.o Ja.o (by decide)))) _).trans (((cell_far (p := ⟨Jb, _, none⟩) (by first | exact Kd.zw (Kd.R_ne Jl.o Ja.o (by decide)) | (rw [add_block]; exact Kd.zw (Kd.R_ne Jl.o Ja.o (by decide))) | (show (Addr.add _ _).block ≠ _; rw [add_block]; exact Kd.zw (Kd.R_ne Jl.o Ja.o (by decide))) | (dsimp only; exact Kd.zw (Kd.R_ne Jl.o Ja.o (by decide)))) _).trans (((cell_far (p := ⟨Jb, _, none⟩) (by first | exact Kd.zw (Kd.R_ne Jl.o Ja.o (by decide)) | (rw [add_block]; exact Kd.zw (Kd.R_ne Jl.o Ja.o (by decide))) | (show (Addr.add _ _).block ≠ _; rw [add_block]; exact Kd.zw (Kd.R_ne Jl.o Ja.o (by decide))) | (dsimp only; exact Kd.zw (Kd.R_ne Jl.o Ja.o (by decide)))) _).trans (((cell_far (p := ⟨Jb, _, none⟩) (by first | exact Kd.zw (Kd.R_ne Jl.o Ja.o (by decide)) | (rw [add_block]; exact Kd.zw (Kd.R_ne Jl.o Ja.o (by decide))) | (show (Addr.add _ _).block ≠ _; rw [add_block]; exact Kd.zw (Kd.R_ne Jl.o Ja.o (by decide))) | (dsimp only; exact Kd.zw (Kd.R_ne Jl.o Ja.o (by decide)))) _).trans (((cell_far (p := ⟨Jb, _, none⟩) (by first | exact Kd.zw (Kd.R_ne Jl.o Ja.o (by decide)) | (rw [add_block]; exact Kd.zw (Kd.R_ne Jl.o Ja.o (by decide))) | (show (Addr.add _ _).block ≠ _; rw [add_block]; exact Kd.zw (Kd.R_ne Jl.o Ja.o (by decide))) | (dsimp only; exact Kd.zw (Kd.R_ne Jl.o Ja.o (by decide)))) _).trans (((cell_far (p := ⟨Jb, _, none⟩) (by first | exact Kd.zw (Kd.R_ne Jl.o Ja.o (by decide)) | (rw [add_block]; exact Kd.zw (Kd.R_ne Jl.o Ja.o (by decide))) | (show (Addr.add _ _).block ≠ _; rw [add_block]; exact Kd.zw (Kd.R_ne Jl.o Ja.o (by decide))) | (dsimp only; exact Kd.zw (Kd.R_ne Jl.o Ja.o (by decide)))) _).trans (((cell_far (p := ⟨Jb, _, none⟩) (by first | exact Kd.zw (Kd.R_ne Jl.o Ja.o (by decide)) | (rw [add_block]; exact Kd.zw (Kd.R_ne Jl.o Ja.o (by decide))) | (show (Addr.add _ _).block ≠ _; rw [add_block]; exact Kd.zw (Kd.R_ne Jl.o Ja.o (by decide))) | (dsimp only; exact Kd.zw (Kd.R_ne Jl.o Ja.o (by decide)))) _).trans (((cell_far (p := ⟨Jb, _, none⟩) (by first | exact Kd.zw (Kd.R_ne Jl.o Ja.o (by decide)) | (rw [add_block]; exact Kd.zw (Kd.R_ne Jl.o Ja.o (by decide))) | (show (Addr.add _ _).block ≠ _; rw [add_block]; exact Kd.zw (Kd.R_ne Jl.o Ja.o (by decide))) | (dsimp only; exact Kd.zw (Kd.R_ne Jl.o Ja.o (by decide)))) _).trans (hHeld.1)))))))))))))))))))), ((cell_far (p := ⟨Jb, _, none⟩) (by first | exact Kd.zw (Kd.R_ne Jl.o Ja.o (by decide)) | (rw [add_block]; exact Kd.zw (Kd.R_ne Jl.o Ja.o (by decide))) | (show (Addr.add _ _).block ≠ _; rw [add_block]; exact Kd.zw (Kd.R_ne Jl.o Ja.o (by decide))) | (dsimp only; exact Kd.zw (Kd.R_ne Jl.o Ja.o (by decide)))) _).trans (((cell_far (p := ⟨Jb, _, none⟩) (by first | exact Kd.zw (Kd.R_ne Jl.o Ja.o (by decide)) | (rw [add_block]; exact Kd.zw (Kd.R_ne Jl.o Ja.o (by decide))) | (show (Addr.add _ _).block ≠ _; rw [add_block]; exact Kd.zw (Kd.R_ne Jl.o Ja.o (by decide))) | (dsimp only; exact Kd.zw (Kd.R_ne Jl.o Ja.o (by decide)))) _).trans (((cell_far (p := ⟨Jb, _, none⟩) (by first | exact Kd.zw (Kd.R_ne Jl.o Ja.o (by decide)) | (rw [add_block]; exact Kd.zw (Kd.R_ne Jl.o Ja.o (by decide))) | (show (Addr.add _ _).block ≠ _; rw [add_block]; exact Kd.zw (Kd.R_ne Jl.o Ja.o (by decide))) | (dsimp only; exact Kd.zw (Kd.R_ne Jl.o Ja.o (by decide)))) _).trans (((cell_far (p := ⟨Jb, _, none⟩) (by first | exact Kd.zw (Kd.R_ne Jl.o Ja.o (by decide)) | (rw [add_block]; exact Kd.zw (Kd.R_ne Jl.o Ja.o (by decide))) | (show (Addr.add _ _).block ≠ _; rw [add_block]; exact Kd.zw (Kd.R_ne Jl.o Ja.o (by decide))) | (dsimp only; exact Kd.zw (Kd.R_ne Jl.o Ja.o (by decide)))) _).trans (((cell_far (p := ⟨Jb, _, none⟩) (by first | exact Kd.zw (Kd.R_ne Jl.o Ja.o (by decide)) | (rw [add_block]; exact Kd.zw (Kd.R_ne Jl.o Ja.o (by decide))) | (show (Addr.add _ _).block ≠ _; rw [add_block]; exact Kd.zw (Kd.R_ne Jl.o Ja.o (by decide))) | (dsimp only; exact Kd.zw (Kd.R_ne Jl.o Ja.o (by decide)))) _).trans (((cell_far (p := ⟨Jb, _, none⟩) (by first | exact Kd.zw (Kd.R_ne Jl.o Ja.o (by decide)) | (rw [add_block]; exact Kd.zw (Kd.R_ne Jl.o Ja.o (by decide))) | (show (Addr.add _ _).block ≠ _; rw [add_block]; exact Kd.zw (Kd.R_ne Jl.o Ja.o (by decide))) | (dsimp only; exact Kd.zw (Kd.R_ne Jl.o Ja.o (by decide)))) _).trans (((cell_far (p := ⟨Jb, _, none⟩) (by first | exact Kd.zw (Kd.R_ne Jl.o Ja.o (by decide)) | (rw [add_block]; exact Kd.zw (Kd.R_ne Jl.o Ja.o (by decide))) | (show (Addr.add _ _).block ≠ _; rw [add_block]; exact Kd.zw (Kd.R_ne Jl.o Ja.o (by decide))) | (dsimp only; exact Kd.zw (Kd.R_ne Jl.o Ja.o (by decide)))) _).trans (((cell_far (p := ⟨Jb, _, none⟩) (by first | exact Kd.zw (Kd.R_ne Jl.o Ja.o (by decide)) | (rw [add_block]; exact Kd.zw (Kd.R_ne Jl.o Ja.o (by decide))) | (show (Addr.add _ _).block ≠ _; rw [add_block]; exact Kd.zw (Kd.R_ne Jl.o Ja.o (by decide))) | (dsimp only; exact Kd.zw (Kd.R_ne Jl.o Ja.o (by decide)))) _).trans (((cell_far (p := ⟨Jb, _, none⟩) (by first | exact Kd.zw (Kd.R_ne Jl.o Ja.o (by decide)) | (rw [add_block]; exact Kd.zw (Kd.R_ne Jl.o Ja.o (by decide))) | (show (Addr.add _ _).block ≠ _; rw [add_block]; exact Kd.zw (Kd.R_ne Jl.o Ja.o (by decide))) | (dsimp only; exact Kd.zw (Kd.R_ne Jl.o Ja.o (by decide)))) _).trans (((cell_far (p := ⟨Jb, _, none⟩) (by first | exact Kd.zw (Kd.R_ne Jl.o Ja.o (by decide)) | (rw [add_block]; exact Kd.zw (Kd.R_ne Jl.o Ja.o (by decide))) | (show (Addr.add _ _).block ≠ _; rw [add_block]; exact Kd.zw (Kd.R_ne Jl.o Ja.o (by decide))) | (dsimp only; exact Kd.zw (Kd.R_ne Jl.o Ja.o (by decide)))) _).trans (hHeld.2.1)))))))))))))))))))), ((cell_far (p := ⟨Jb, _, none⟩) (by first | exact Kd.zw (Kd.R_ne Jl.o Ja.o (by decide)) | (rw [add_block]; exact Kd.zw (Kd.R_ne Jl.o Ja.o (by decide))) | (show (Addr.add _ _).block ≠ _; rw [add_block]; exact Kd.zw (Kd.R_ne Jl.o Ja.o (by decide))) | (dsimp only; exact Kd.zw (Kd.R_ne Jl.o Ja.o (by decide)))) _).trans (((cell_far (p := ⟨Jb, _, none⟩) (by first | exact Kd.zw (Kd.R_ne Jl.o Ja.o (by decide)) | (rw [add_block]; exact Kd.zw (Kd.R_ne Jl.o Ja.o (by decide))) | (show (Addr.add _ _).block ≠ _; rw [add_block]; exact Kd.zw (Kd.R_ne Jl.o Ja.o (by decide))) | (dsimp only; exact Kd.zw (Kd.R_ne Jl.o Ja.o (by decide)))) _).trans (((cell_far (p := ⟨Jb, _, none⟩) (by first | exact Kd.zw (Kd.R_ne Jl.o Ja.o (by decide)) | (rw [add_block]; exact Kd.zw (Kd.R_ne Jl.o Ja.o (by decide))) | (show (Addr.add _ _).block ≠ _; rw [add_block]; exact Kd.zw (Kd.R_ne Jl.o Ja.o (by decide))) | (dsimp only; exact Kd.zw (Kd.R_ne Jl.o Ja.o (by decide)))) _).trans (((cell_far (p := ⟨Jb, _, none⟩) (by first | exact Kd.zw (Kd.R_ne Jl.o Ja.o (by decide)) | (rw [add_block]; exact Kd.zw (Kd.R_ne Jl.o Ja.o (by decide))) | (show (Addr.add _ _).block ≠ _; rw [add_block]; exact Kd.zw (Kd.R_ne Jl.o Ja.o (by decide))) | (dsimp only; exact Kd.zw (Kd.R_ne Jl.o Ja.o (by decide)))) _).trans (((cell_far (p := ⟨Jb, _, none⟩) (by first | exact Kd.zw (Kd.R_ne Jl.o Ja.o (by decide)) | (rw [add_block]; exact Kd.zw (Kd.R_ne Jl.o Ja.o (by decide))) | (show (Addr.add _ _).block ≠ _; rw [add_block]; exact Kd.zw (Kd.R_ne Jl.o Ja.o (by decide))) | (dsimp only; exact Kd.zw (Kd.R_ne Jl.o Ja.o (by decide)))) _).trans (((cell_far (p := ⟨Jb, _, none⟩) (by first | exact Kd.zw (Kd.R_ne Jl.o Ja.o (by decide)) | (rw [add_block]; exact Kd.zw (Kd.R_ne Jl.o Ja.o (by decide))) | (show (Addr.add _ _).block ≠ _; rw [add_block]; exact Kd.zw (Kd.R_ne Jl.o Ja.o (by decide))) | (dsimp only; exact Kd.zw (Kd.R_ne Jl.o Ja.o (by decide)))) _).trans (((cell_far (p := ⟨Jb, _, none⟩) (by first | exact Kd.zw (Kd.R_ne Jl.o Ja.o (by decide)) | (rw [add_block]; exact Kd.zw (Kd.R_ne Jl.o Ja.o (by decide))) | (show (Addr.add _ _).block ≠ _; rw [add_block]; exact Kd.zw (Kd.R_ne Jl.o Ja.o (by decide))) | (dsimp only; exact Kd.zw (Kd.R_ne Jl.o Ja.o (by decide)))) _).trans (((cell_far (p := ⟨Jb, _, none⟩) (by first | exact Kd.zw (Kd.R_ne Jl.o Ja.o (by decide)) | (rw [add_block]; exact Kd.zw (Kd.R_ne Jl.o Ja.o (by decide))) | (show (Addr.add _ _).block ≠ _; rw [add_block]; exact Kd.zw (Kd.R_ne Jl.o Ja.o (by decide))) | (dsimp only; exact Kd.zw (Kd.R_ne Jl.o Ja.o (by decide)))) _).trans (((cell_far (p := ⟨Jb, _, none⟩) (by first | exact Kd.zw (Kd.R_ne Jl.o Ja.o (by decide)) | (rw [add_block]; exact Kd.zw (Kd.R_ne Jl.o Ja.o (by decide))) | (show (Addr.add _ _).block ≠ _; rw [add_block]; exact Kd.zw (Kd.R_ne Jl.o Ja.o (by decide))) | (dsimp only; exact Kd.zw (Kd.R_ne Jl.o Ja.o (by decide)))) _).trans (((cell_far (p := ⟨Jb, _, none⟩) (by first | exact Kd.zw (Kd.R_ne Jl.o Ja.o (by decide)) | (rw [add_block]; exact Kd.zw (Kd.R_ne Jl.o Ja.o (by decide))) | (show (Addr.add _ _).block ≠ _; rw [add_block]; exact Kd.zw (Kd.R_ne Jl.o Ja.o (by decide))) | (dsimp only; exact Kd.zw (Kd.R_ne Jl.o Ja.o (by decide)))) _).trans (hHeld.2.2.1)))))))))))))))))))), ((cell_far (p := ⟨Jb, _, none⟩) (by first | exact Nat.ne_of_lt (Nat.lt_of_lt_of_le (by have := World.block_lt_of_cell? _ _ Jn; first | rwa [add_block] at this | exact this) Jp.o) | (rw [add_block]; exact Nat.ne_of_lt (Nat.lt_of_lt_of_le (by have := World.block_lt_of_cell? _ _ Jn; first | rwa [add_block] at this | exact this) Jp.o)) | (show (Addr.add _ _).block ≠ _; rw [add_block]; exact Nat.ne_of_lt (Nat.lt_of_lt_of_le (by have := World.block_lt_of_cell? _ _ Jn; first | rwa [add_block] at this | exact this) Jp.o)) | (dsimp only; exact Nat.ne_of_lt (Nat.lt_of_lt_of_le (by have := World.block_lt_of_cell? _ _ Jn; first | rwa [add_block] at this | exact this) Jp.o))) _).trans (((cell_far (p := ⟨Jb, _, none⟩) (by first | exact Nat.ne_of_lt (Nat.lt_of_lt_of_le (by have := World.block_lt_of_cell? _ _ Jn; first | rwa [add_block] at this | exact this) Jp.o) | (rw [add_block]; exact Nat.ne_of_lt (Nat.lt_of_lt_of_le (by have := World.block_lt_of_cell? _ _ Jn; first | rwa [add_block] at this | exact this) Jp.o)) | (show (Addr.add _ _).block ≠ _; rw [add_block]; exact Nat.ne_of_lt (Nat.lt_of_lt_of_le (by have := World.block_lt_of_cell? _ _ Jn; first | rwa [add_block] at this | exact this) Jp.o)) | (dsimp only; exact Nat.ne_of_lt (Nat.lt_of_lt_of_le (by have := World.block_lt_of_cell? _ _ Jn; first | rwa [add_block] at this | exact this) Jp.o))) _).trans (((cell_far (p := ⟨Jb, _, none⟩) (by first | exact Nat.ne_of_lt (Nat.lt_of_lt_of_le (by have := World.block_lt_of_cell? _ _ Jn; first | rwa [add_block] at this | exact this) Jp.o) | (rw [add_block]; exact Nat.ne_of_lt (Nat.lt_of_lt_of_le (by have := World.block_lt_of_cell? _ _ Jn; first | rwa [add_block] at this | exact this) Jp.o)) | (show (Addr.add _ _).block ≠ _; rw [add_block]; exact Nat.ne_of_lt (Nat.lt_of_lt_of_le (by have := World.block_lt_of_cell? _ _ Jn; first | rwa [add_block] at this | exact this) Jp.o)) | (dsimp only; exact Nat.ne_of_lt (Nat.lt_of_lt_of_le (by have := World.block_lt_of_cell? _ _ Jn; first | rwa [add_block] at this | exact this) Jp.o))) _).trans (((cell_far (p := ⟨Jb, _, none⟩) (by first | exact Nat.ne_of_lt (Nat.lt_of_lt_of_le (by have := World.block_lt_of_cell? _ _ Jn; first | rwa [add_block] at this | exact this) Jp.o) | (rw [add_block]; exact Nat.ne_of_lt (Nat.lt_of_lt_of_le (by have := World.block_lt_of_cell? _ _ Jn; first | rwa [add_block] at this | exact this) Jp.o)) | (show (Addr.add _ _).block ≠ _; rw [add_block]; exact Nat.ne_of_lt (Nat.lt_of_lt_of_le (by have := World.block_lt_of_cell? _ _ Jn; first | rwa [add_block] at this | exact this) Jp.o)) | (dsimp only; exact Nat.ne_of_lt (Nat.lt_of_lt_of_le (by have := World.block_lt_of_cell? _ _ Jn; first | rwa [add_block] at this | exact this) Jp.o))) _).trans (((cell_far (p := ⟨Jb, _, none⟩) (by first | exact Nat.ne_of_lt (Nat.lt_of_lt_of_le (by have := World.block_lt_of_cell? _ _ Jn; first | rwa [add_block] at this | exact this) Jp.o) | (rw [add_block]; exact Nat.ne_of_lt (Nat.lt_of_lt_of_le (by have := World.block_lt_of_cell? _ _ Jn; first | rwa [add_block] at this | exact this) Jp.o)) | (show (Addr.add _ _).block ≠ _; rw [add_block]; exact Nat.ne_of_lt (Nat.lt_of_lt_of_le (by have := World.block_lt_of_cell? _ _ Jn; first | rwa [add_block] at this | exact this) Jp.o)) | (dsimp only; exact Nat.ne_of_lt (Nat.lt_of_lt_of_le (by have := World.block_lt_of_cell? _ _ Jn; first | rwa [add_block] at this | exact this) Jp.o))) _).trans (((cell_far (p := ⟨Jb, _, none⟩) (by first | exact Nat.ne_of_lt (Nat.lt_of_lt_of_le (by have := World.block_lt_of_cell? _ _ Jn; first | rwa [add_block] at this | exact this) Jp.o) | (rw [add_block]; exact Nat.ne_of_lt (Nat.lt_of_lt_of_le (by have := World.block_lt_of_cell? _ _ Jn; first | rwa [add_block] at this | exact this) Jp.o)) | (show (Addr.add _ _).block ≠ _; rw [add_block]; exact Nat.ne_of_lt (Nat.lt_of_lt_of_le (by have := World.block_lt_of_cell? _ _ Jn; first | rwa [add_block] at this | exact this) Jp.o)) | (dsimp only; exact Nat.ne_of_lt (Nat.lt_of_lt_of_le (by have := World.block_lt_of_cell? _ _ Jn; first | rwa [add_block] at this | exact this) Jp.o))) _).trans (((cell_far (p := ⟨Jb, _, none⟩) (by first | exact Nat.ne_of_lt (Nat.lt_of_lt_of_le (by have := World.block_lt_of_cell? _ _ Jn; first | rwa [add_block] at this | exact this) Jp.o) | (rw [add_block]; exact Nat.ne_of_lt (Nat.lt_of_lt_of_le (by have := World.block_lt_of_cell? _ _ Jn; first | rwa [add_block] at this | exact this) Jp.o)) | (show (Addr.add _ _).block ≠ _; rw [add_block]; exact Nat.ne_of_lt (Nat.lt_of_lt_of_le (by have := World.block_lt_of_cell? _ _ Jn; first | rwa [add_block] at this | exact this) Jp.o)) | (dsimp only; exact Nat.ne_of_lt (Nat.lt_of_lt_of_le (by have := World.block_lt_of_cell? _ _ Jn; first | rwa [add_block] at this | exact this) Jp.o))) _).trans (((cell_far (p := ⟨Jb, _, none⟩) (by first | exact Nat.ne_of_lt (Nat.lt_of_lt_of_le (by have := World.block_lt_of_cell? _ _ Jn; first | rwa [add_block] at this | exact this) Jp.o) | (rw [add_block]; exact Nat.ne_of_lt (Nat.lt_of_lt_of_le (by have := World.block_lt_of_cell? _ _ Jn; first | rwa [add_block] at this | exact this) Jp.o)) | (show (Addr.add _ _).block ≠ _; rw [add_block]; exact Nat.ne_of_lt (Nat.lt_of_lt_of_le (by have := World.block_lt_of_cell? _ _ Jn; first | rwa [add_block] at this | exact this) Jp.o)) | (dsimp only; exact Nat.ne_of_lt (Nat.lt_of_lt_of_le (by have := World.block_lt_of_cell? _ _ Jn; first | rwa [add_block] at this | exact this) Jp.o))) _).trans (((cell_far (p := ⟨Jb, _, none⟩) (by first | exact Nat.ne_of_lt (Nat.lt_of_lt_of_le (by have := World.block_lt_of_cell? _ _ Jn; first | rwa [add_block] at this | exact this) Jp.o) | (rw [add_block]; exact Nat.ne_of_lt (Nat.lt_of_lt_of_le (by have := World.block_lt_of_cell? _ _ Jn; first | rwa [add_block] at this | exact this) Jp.o)) | (show (Addr.add _ _).block ≠ _; rw [add_block]; exact Nat.ne_of_lt (Nat.lt_of_lt_of_le (by have := World.block_lt_of_cell? _ _ Jn; first | rwa [add_block] at this | exact this) Jp.o)) | (dsimp only; exact Nat.ne_of_lt (Nat.lt_of_lt_of_le (by have := World.block_lt_of_cell? _ _ Jn; first | rwa [add_block] at this | exact this) Jp.o))) _).trans (((cell_far (p := ⟨Jb, _, none⟩) (by first | exact Nat.ne_of_lt (Nat.lt_of_lt_of_le (by have := World.block_lt_of_cell? _ _ Jn; first | rwa [add_block] at this | exact this) Jp.o) | (rw [add_block]; exact Nat.ne_of_lt (Nat.lt_of_lt_of_le (by have := World.block_lt_of_cell? _ _ Jn; first | rwa [add_block] at this | exact this) Jp.o)) | (show (Addr.add _ _).block ≠ _; rw [add_block]; exact Nat.ne_of_lt (Nat.lt_of_lt_of_le (by have := World.block_lt_of_cell? _ _ Jn; first | rwa [add_block] at this | exact this) Jp.o)) | (dsimp only; exact Nat.ne_of_lt (Nat.lt_of_lt_of_le (by have := World.block_lt_of_cell? _ _ Jn; first | rwa [add_block] at this | exact this) Jp.o))) _).trans (hHeld.2.2.2.1)))))))))))))))))))), ((cell_far (p := ⟨Jb, _, none⟩) (by first | exact Kd.zw (Kd.R_ne Jl.o Ja.o (by decide)) | (rw [add_block]; exact Kd.zw (Kd.R_ne Jl.o Ja.o (by decide))) | (show (Addr.add _ _).block ≠ _; rw [add_block]; exact Kd.zw (Kd.R_ne Jl.o Ja.o (by decide))) | (dsimp only; exact Kd.zw (Kd.R_ne Jl.o Ja.o (by decide)))) _).trans (((cell_far (p := ⟨Jb, _, none⟩) (by first | exact Kd.zw (Kd.R_ne Jl.o Ja.o (by decide)) | (rw [add_block]; exact Kd.zw (Kd.R_ne Jl.o Ja.o (by decide))) | (show (Addr.add _ _).block ≠ _; rw [add_block]; exact Kd.zw (Kd.R_ne Jl.o Ja.o (by decide))) | (dsimp only; exact Kd.zw (Kd.R_ne Jl.o Ja.o (by decide)))) _).trans (((cell_far (p := ⟨Jb, _, none⟩) (by first | exact Kd.zw (Kd.R_ne Jl.o Ja.o (by decide)) | (rw [add_block]; exact Kd.zw (Kd.R_ne Jl.o Ja.o (by decide))) | (show (Addr.add _ _).block ≠ _; rw [add_block]; exact Kd.zw (Kd.R_ne Jl.o Ja.o (by decide))) | (dsimp only; exact Kd.zw (Kd.R_ne Jl.o Ja.o (by decide)))) _).trans (((cell_far (p := ⟨Jb, _, none⟩) (by first | exact Kd.zw (Kd.R_ne Jl.o Ja.o (by decide)) | (rw [add_block]; exact Kd.zw (Kd.R_ne Jl.o Ja.o (by decide))) | (show (Addr.add _ _).block ≠ _; rw [add_block]; exact Kd.zw (Kd.R_ne Jl.o Ja.o (by decide))) | (dsimp only; exact Kd.zw (Kd.R_ne Jl.o Ja.o (by decide)))) _).trans (((cell_far (p := ⟨Jb, _, none⟩) (by first | exact Kd.zw (Kd.R_ne Jl.o Ja.o (by decide)) | (rw [add_block]; exact Kd.zw (Kd.R_ne Jl.o Ja.o (by decide))) | (show (Addr.add _ _).block ≠ _; rw [add_block]; exact Kd.zw (Kd.R_ne Jl.o Ja.o (by decide))) | (dsimp only; exact Kd.zw (Kd.R_ne Jl.o Ja.o (by decide)))) _).trans (((cell_far (p := ⟨Jb, _, none⟩) (by first | exact Kd.zw (Kd.R_ne Jl.o Ja.o (by decide)) | (rw [add_block]; exact Kd.zw (Kd.R_ne Jl.o Ja.o (by decide))) | (show (Addr.add _ _).block ≠ _; rw [add_block]; exact Kd.zw (Kd.R_ne Jl.o Ja.o (by decide))) | (dsimp only; exact Kd.zw (Kd.R_ne Jl.o Ja.o (by decide)))) _).trans (((cell_far (p := ⟨Jb, _, none⟩) (by first | exact Kd.zw (Kd.R_ne Jl.o Ja.o (by decide)) | (rw [add_block]; exact Kd.zw (Kd.R_ne Jl.o Ja.o (by decide))) | (show (Addr.add _ _).block ≠ _; rw [add_block]; exact Kd.zw (Kd.R_ne Jl.o Ja.o (by decide))) | (dsimp only; exact Kd.zw (Kd.R_ne Jl.o Ja.o (by decide)))) _).trans (((cell_far (p := ⟨Jb, _, none⟩) (by first | exact Kd.zw (Kd.R_ne Jl.o Ja.o (by decide)) | (rw [add_block]; exact Kd.zw (Kd.R_ne Jl.o Ja.o (by decide))) | (show (Addr.add _ _).block ≠ _; rw [add_block]; exact Kd.zw (Kd.R_ne Jl.o Ja.o (by decide))) | (dsimp only; exact Kd.zw (Kd.R_ne Jl.o Ja.o (by decide)))) _).trans (((cell_far (p := ⟨Jb, _, none⟩) (by first | exact Kd.zw (Kd.R_ne Jl.o Ja.o (by decide)) | (rw [add_block]; exact Kd.zw (Kd.R_ne Jl.o Ja.o (by decide))) | (show (Addr.add _ _).block ≠ _; rw [add_block]; exact Kd.zw (Kd.R_ne Jl.o Ja.o (by decide))) | (dsimp only; exact Kd.zw (Kd.R_ne Jl.o Ja.o (by decide)))) _).trans (((cell_far (p := ⟨Jb, _, none⟩) (by first | exact Kd.zw (Kd.R_ne Jl.o Ja.o (by decide)) | (rw [add_block]; exact Kd.zw (Kd.R_ne Jl.o Ja.o (by decide))) | (show (Addr.add _ _).block ≠ _; rw [add_block]; exact Kd.zw (Kd.R_ne Jl.o Ja.o (by decide))) | (dsimp only; exact Kd.zw (Kd.R_ne Jl.o Ja.o (by decide)))) _).trans (hHeld.2.2.2.2))))))))))))))))))))⟩ (fun hHeld => ?_)
           clear hK K
           refine done_ (Yf HT_.o (by kernel_rfl)) ?_
           try go_wp2
           go_loopg [62] k1 (fun kq v62 w' => ∃ (Jw : Int) (Jc : Int) (Je : Int) (Jg : Int) (Jh : Int) (Ji : Int), v62 = .int .i64 Jw ∧ ze (cards_Read.l1 kq l0 Jd Jw (rd Jd 0) (rd Jd 1) (rd Jd 2) (rd l0 1) Jc Je Jg Jh Ji (wrap64 ((rd Jd (Jt)) - 1)) = some (r1, r2, r3, r4, r5, r6, r7, r8, r9, r10, r11)) ∧ ze (kq ≤ k1) ∧ ze (Kd.R (Kd.int .i64) 3 w' w.heap.size (fun _ => True) (.slice (some JA) Jd.length Gq) Jd) ∧ ze (w'.heap[Jf]? = some (.cells #[.int .i64 0, .int .i64 0, .int .i64 0, .int .u64 0, .int .i64 0, .int .i64 0, .int .i64 0, .int .i64 0, .int .i64 0, .int .i64 0] 37 (0, 0))) ∧ ze (w'.heap[Jb]? = some (.cells #[.int .i64 (rd Jd 0), .int .i64 (rd Jd 1), .int .i64 (rd Jd 2), .int .u64 (rd l0 1), .int .i64 Jc, .int .i64 Je, .int .i64 Jg, .int .i64 Jh, .int .i64 Ji, .int .i64 (wrap64 ((rd Jd (Jt)) - 1))] 37 (0, 0))) ∧ ze (Below w.heap.size w w'))
           case atStart => exact ⟨(0), (0), (0), (0), (0), (0), (by first | rfl | (simp; done) | (simp [*]; done) | kernel_rfl), H', ⟨Nat.le_refl _⟩, ⟨by (with_reducible repeat (first | apply Kd.zz | apply Kd.zA | apply Kd.zF)); exact Kd.zT (Kd.R_far (p := ⟨Jb, 9, none⟩) (Kd.R_far (p := ⟨Jb, 8, none⟩) (Kd.R_far (p := ⟨Jb, 7, none⟩) (Kd.R_far (p := ⟨Jb, 6, none⟩) (Kd.R_far (p := ⟨Jb, 5, none⟩) (Kd.R_far (p := ⟨Jb, 4, none⟩) (Kd.R_far (p := ⟨Jb, 3, none⟩) (Kd.R_far (p := ⟨Jb, 2, none⟩) (Kd.R_far (p := ⟨Jb, 1, none⟩) (Kd.R_far (p := ⟨Jb, 0, none⟩) (Kd.yD Jl.o Ja.o (by decide)) (fun _ hk => hk.2) (.int .i64 (rd Jd 0))) (fun _ hk => hk.2) (.int .i64 (rd Jd 1))) (fun _ hk => hk.2) (.int .i64 (rd Jd 2))) (fun _ hk => hk.2) (.int .u64 (rd l0 1))) (fun _ hk => hk.2) (.int .i64 0)) (fun _ hk => hk.2) (.int .i64 0)) (fun _ hk => hk.2) (.int .i64 0)) (fun _ hk => hk.2) (.int .i64 0)) (fun _ hk => hk.2) (.int .i64 0)) (fun _ hk => hk.2) (.int .i64 (wrap64 ((rd Jd (Jt)) - 1)))) (fun _ hk => trivial)⟩, ⟨by (with_reducible repeat (first | refine zg ?_ _ | refine zi ?_ | refine zh ?_ _)); refine zB ?_ Jm.o _; (with_reducible repeat (first | refine zg ?_ _ | refine zi ?_ | refine zh ?_ _)); refine zB ?_ Jm.o _; (with_reducible repeat (first | refine zg ?_ _ | refine zi ?_ | refine zh ?_ _)); refine zB ?_ Jm.o _; (with_reducible repeat (first | refine zg ?_ _ | refine zi ?_ | refine zh ?_ _)); refine zB ?_ Jm.o _; (with_reducible repeat (first | refine zg ?_ _ | refine zi ?_ | refine zh ?_ _)); refine zB ?_ Jm.o _; (with_reducible repeat (first | refine zg ?_ _ | refine zi ?_ | refine zh ?_ _)); refine zB ?_ Jm.o _; (with_reducible repeat (first | refine zg ?_ _ | refine zi ?_ | refine zh ?_ _)); refine zB ?_ Jm.o _; (with_reducible repeat (first | refine zg ?_ _ | refine zi ?_ | refine zh ?_ _)); refine zB ?_ Jm.o _; (with_reducible repeat (first | refine zg ?_ _ | refine zi ?_ | refine zh ?_ _)); refine zB ?_ Jm.o _; (with_reducible repeat (first | refine zg ?_ _ | refine zi ?_ | refine zh ?_ _)); refine zB ?_ Jm.o _; (with_reducible repeat (first | refine zg ?_ _ | refine zi ?_ | refine zh ?_ _)); exact Jj.o⟩, ⟨by (with_reducible repeat (first | refine zg ?_ _ | refine zi ?_ | refine zh ?_ _)); refine zq (cs := #[.int .i64 (rd Jd 0), .int .i64 (rd Jd 1), .int .i64 (rd Jd 2), .int .u64 (rd l0 1), .int .i64 0, .int .i64 0, .int .i64 0, .int .i64 0, .int .i64 0, .int .i64 0]) ?_ 9 _ rfl; (with_reducible repeat (first | refine zg ?_ _ | refine zi ?_ | refine zh ?_ _)); refine zq (cs := #[.int .i64 (rd Jd 0), .int .i64 (rd Jd 1), .int .i64 (rd Jd 2), .int .u64 (rd l0 1), .int .i64 0, .int .i64 0, .int .i64 0, .int .i64 0, .int .i64 0, .int .i64 0]) ?_ 8 _ rfl; (with_reducible repeat (first | refine zg ?_ _ | refine zi ?_ | refine zh ?_ _)); refine zq (cs := #[.int .i64 (rd Jd 0), .int .i64 (rd Jd 1), .int .i64 (rd Jd 2), .int .u64 (rd l0 1), .int .i64 0, .int .i64 0, .int .i64 0, .int .i64 0, .int .i64 0, .int .i64 0]) ?_ 7 _ rfl; (with_reducible repeat (first | refine zg ?_ _ | refine zi ?_ | refine zh ?_ _)); refine zq (cs := #[.int .i64 (rd Jd 0), .int .i64 (rd Jd 1), .int .i64 (rd Jd 2), .int .u64 (rd l0 1), .int .i64 0, .int .i64 0, .int .i64 0, .int .i64 0, .int .i64 0, .int .i64 0]) ?_ 6 _ rfl; (with_reducible repeat (first | refine zg ?_ _ | refine zi ?_ | refine zh ?_ _)); refine zq (cs := #[.int .i64 (rd Jd 0), .int .i64 (rd Jd 1), .int .i64 (rd Jd 2), .int .u64 (rd l0 1), .int .i64 0, .int .i64 0, .int .i64 0, .int .i64 0, .int .i64 0, .int .i64 0]) ?_ 5 _ rfl; (with_reducible repeat (first | refine zg ?_ _ | refine zi ?_ | refine zh ?_ _)); refine zq (cs := #[.int .i64 (rd Jd 0), .int .i64 (rd Jd 1), .int .i64 (rd Jd 2), .int .u64 (rd l0 1), .int .i64 0, .int .i64 0, .int .i64 0, .int .i64 0, .int .i64 0, .int .i64 0]) ?_ 4 _ rfl; (with_reducible repeat (first | refine zg ?_ _ | refine zi ?_ | refine zh ?_ _)); refine zq (cs := #[.int .i64 (rd Jd 0), .int .i64 (rd Jd 1), .int .i64 (rd Jd 2), .int .u64 0, .int .i64 0, .int .i64 0, .int .i64 0, .int .i64 0, .int .i64 0, .int .i64 0]) ?_ 3 _ rfl; (with_reducible repeat (first | refine zg ?_ _ | refine zi ?_ | refine zh ?_ _)); refine zq (cs := #[.int .i64 (rd Jd 0), .int .i64 (rd Jd 1), .int .i64 0, .int .u64 0, .int .i64 0, .int .i64 0, .int .i64 0, .int .i64 0, .int .i64 0, .int .i64 0]) ?_ 2 _ rfl; (with_reducible repeat (first | refine zg ?_ _ | refine zi ?_ | refine zh ?_ _)); refine zq (cs := #[.int .i64 (rd Jd 0), .int .i64 0, .int .i64 0, .int .u64 0, .int .i64 0, .int .i64 0, .int .i64 0, .int .i64 0, .int .i64 0, .int .i64 0]) ?_ 1 _ rfl; (with_reducible repeat (first | refine zg ?_ _ | refine zi ?_ | refine zh ?_ _)); refine zq (cs := #[.int .i64 0, .int .i64 0, .int .i64 0, .int .u64 0, .int .i64 0, .int .i64 0, .int .i64 0, .int .i64 0, .int .i64 0, .int .i64 0]) ?_ 0 _ rfl; (with_reducible repeat (first | refine zg ?_ _ | refine zi ?_ | refine zh ?_ _)); exact Ja.o⟩, ⟨by repeat (first | (with_reducible first | exact HB.o | apply zl | apply zf | apply zk | refine zm ?_ Js.o | refine zm ?_ JB.o) | exact HB.o)⟩⟩
           case round =>
            clear H'
            try clear c1
            try clear c2
            try clear Jdl
            try clear Jdk
            try clear p2
            try clear q2
            try clear hx2
            try clear qi2
            try clear c5
            try clear c6
            try clear p6
            try clear c7
            try clear c7b0
            try clear c8
            try clear c8b0
            try clear c9
            try clear c9b0
            try clear c10
            try clear Jdx
            try clear c11
            try clear Jdw
            try clear c13
            try clear c15
            try clear c20
            try clear Jdv
            try clear Jdu
            try clear p20
            try clear q20
            try clear hx20
            try clear qi20
            try clear c21
            try clear Jdt
            try clear Jds
            try clear p21
            try clear q21
            try clear hx21
            try clear qi21
            try clear c22
            try clear Jdr
            try clear Jdq
            try clear c23
            try clear Jdp
            try clear Jdo
            try clear c25
            try clear Jdn
            try clear c26
            try clear Jdm
            try clear Gn
            try clear Gm
            try clear Gl
            try clear Gj
            try clear Gi
            try clear Gh
            try clear Gg
            try clear Gf
            try clear Gd
            try clear JP
            try clear JS
            try clear JR
            try clear JQ
            try clear JC
            try clear J4
            try clear p2
            try clear GM
            try clear GL
            try clear GK
            try clear GJ
            try clear GI
            try clear GH
            try clear GG
            try clear GD
            try clear Gz
            try clear Gy
            try clear Gx
            try clear Gw
            try clear Gv
            try clear Gu
            obtain ⟨Jw, Jc, Je, Jg, Jh, Ji, rfl, HA, HK2, Jl, Jj, Ja, HB⟩ := hrel
            cases gk with
            | zero => exact absurd HA.o (by simp [cards_Read.l1])
            | succ k2 =>
             have H := HA.o
             clear HA
             simp only [cards_Read.l1] at H
             by_cases c40 : Jw < 5
             ·rw [if_pos c40] at H
              have Jdj : decide (Jw < 5) = true := decide_eq_true c40
              clear c40
              obtain ⟨JZ, J2⟩ : ∃ j_ : Int, (wrap64 (3 + Jw)) = j_ := ⟨_, rfl⟩
              replace H : (if 0 ≤ (JZ) then (if (JZ) < (Jd.length : Int) then (if Jw = 0 then (cards_Read.l1 k2 l0 Jd (wrap64 (Jw + 1)) (rd Jd 0) (rd Jd 1) (rd Jd 2) (rd l0 1) (wrap64 ((rd Jd (JZ)) - 1)) Je Jg Jh Ji (wrap64 ((rd Jd (Jt)) - 1))) else (if Jw = 1 then (cards_Read.l1 k2 l0 Jd (wrap64 (Jw + 1)) (rd Jd 0) (rd Jd 1) (rd Jd 2) (rd l0 1) Jc (wrap64 ((rd Jd (JZ)) - 1)) Jg Jh Ji (wrap64 ((rd Jd (Jt)) - 1))) else (if Jw = 2 then (cards_Read.l1 k2 l0 Jd (wrap64 (Jw + 1)) (rd Jd 0) (rd Jd 1) (rd Jd 2) (rd l0 1) Jc Je (wrap64 ((rd Jd (JZ)) - 1)) Jh Ji (wrap64 ((rd Jd (Jt)) - 1))) else (if Jw = 3 then (cards_Read.l1 k2 l0 Jd (wrap64 (Jw + 1)) (rd Jd 0) (rd Jd 1) (rd Jd 2) (rd l0 1) Jc Je Jg (wrap64 ((rd Jd (JZ)) - 1)) Ji (wrap64 ((rd Jd (Jt)) - 1))) else (if Jw = 4 then (cards_Read.l1 k2 l0 Jd (wrap64 (Jw + 1)) (rd Jd 0) (rd Jd 1) (rd Jd 2) (rd l0 1) Jc Je Jg Jh (wrap64 ((rd Jd (JZ)) - 1)) (wrap64 ((rd Jd (Jt)) - 1))) else (none)))))) else (none)) else (none)) = some (r1, r2, r3, r4, r5, r6, r7, r8, r9, r10, r11) := by first | (rw [J2] at H; exact H) | (simp only [J2] at H ⊢; exact H)
              have hji41w : (IntKind.i64.wrap (3 + Jw)) = JZ := (i64_w _).trans J2
              by_cases c42 : 0 ≤ (JZ)
              ·rw [if_pos c42] at H
               have c42b0 : decide (0 ≤ (JZ)) = true := decide_eq_true c42
               clear c42
               by_cases c43 : (JZ) < (Jd.length : Int)
               ·rw [if_pos c43] at H
                have c43b0 : decide ((JZ) < (Jd.length : Int)) = true := decide_eq_true c43
                clear c43
                by_cases c44 : Jw = 0
                ·subst c44
                 have JI : JZ = 3 := by rw [← J2]; kernel_rfl
                 subst JI
                 have H1 : (cards_Read.l1 k2 l0 Jd (wrap64 (0 + 1)) (rd Jd 0) (rd Jd 1) (rd Jd 2) (rd l0 1) (wrap64 ((rd Jd 3) - 1)) Je Jg Jh Ji (wrap64 ((rd Jd (Jt)) - 1))) = some (r1, r2, r3, r4, r5, r6, r7, r8, r9, r10, r11) := by rw [if_pos rfl] at H; exact H
                 clear H
                 have H := H1
                 clear H1
                 have H' := ze.mk H
                 clear H
                 have JV : 0 ≤ (3 : Int) := (by omega)
                 have JU : 3 < (Jd.length : Int) := of_decide_eq_true (by first | (with_reducible assumption) | assumption)
                 obtain ⟨JY, e214, Ju⟩ := Kd.zX (Kd.zQ Jl.o).2.2 3 JV JU
                 obtain rfl : JA = JY := (by injection e214)
                 (try simp only [show (3 : Int).toNat = 3 from rfl, Nat.reduceMul, Nat.reduceEqDiff, Go.Addr.add, ↓reduceIte] at Ju)
                 have J7 : (3 < Jd.length) = True := eq_true (by omega)
                 (try rw [show ((3 : Int)).toNat = 3 from rfl] at Ju)
                 replace JV := eq_true JV
                 replace JU := eq_true JU
                 have hnb45 := Jk.o
                 have hnc45 := Jm.o
                 have Jdg : wr.cell? ⟨Jb, 0, none⟩ = some (.int .i64 (rd Jd 0)) := (zb Ja.o 0).trans rfl
                 have Jdf : wr.cell? ⟨Jb, 1, none⟩ = some (.int .i64 (rd Jd 1)) := (zb Ja.o 1).trans rfl
                 have Jde : wr.cell? ⟨Jb, 2, none⟩ = some (.int .i64 (rd Jd 2)) := (zb Ja.o 2).trans rfl
                 have Jdd : wr.cell? ⟨Jb, 3, none⟩ = some (.int .u64 (rd l0 1)) := (zb Ja.o 3).trans rfl
                 have Jdc : wr.cell? ⟨Jb, 4, none⟩ = some (.int .i64 Jc) := (zb Ja.o 4).trans rfl
                 have Jdb : wr.cell? ⟨Jb, 5, none⟩ = some (.int .i64 Je) := (zb Ja.o 5).trans rfl
                 have Jda : wr.cell? ⟨Jb, 6, none⟩ = some (.int .i64 Jg) := (zb Ja.o 6).trans rfl
                 have Jc9 : wr.cell? ⟨Jb, 7, none⟩ = some (.int .i64 Jh) := (zb Ja.o 7).trans rfl
                 have Jc8 : wr.cell? ⟨Jb, 8, none⟩ = some (.int .i64 Ji) := (zb Ja.o 8).trans rfl
                 have Jc7 : wr.cell? ⟨Jb, 9, none⟩ = some (.int .i64 (wrap64 ((rd Jd (Jt)) - 1))) := (zb Ja.o 9).trans rfl
                 have Jba := za Ja.o 0
                 have Ja9 := za Ja.o 1
                 have Ja8 := za Ja.o 2
                 have Ja7 := za Ja.o 3
                 have Ja6 := za Ja.o 4
                 have Ja5 := za Ja.o 5
                 have Ja4 := za Ja.o 6
                 have Ja3 := za Ja.o 7
                 have Ja2 := za Ja.o 8
                 have Ja1 := za Ja.o 9
                 go_wp2
                 go_roundg k2
                 case measure => have := HK1.o; have := HK2.o; omega
                 case rel => exact ⟨(wrap64 (0 + 1)), (wrap64 ((rd Jd 3) - 1)), (Je), (Jg), (Jh), (Ji), (by first | rfl | (simp; done) | (simp [*]; done) | kernel_rfl), H', ⟨by have := HK1.o; have := HK2.o; omega⟩, ⟨by (with_reducible repeat (first | apply Kd.zz | apply Kd.zA | apply Kd.zF)); exact Kd.zT (Kd.R_far (p := ⟨Jb, 4, none⟩) (Kd.yD Jl.o Ja.o (by decide)) (fun _ hk => hk.2) (.int .i64 (wrap64 ((rd Jd 3) - 1)))) (fun _ hk => trivial)⟩, ⟨by (with_reducible repeat (first | refine zg ?_ _ | refine zi ?_ | refine zh ?_ _)); refine zB ?_ Jm.o _; (with_reducible repeat (first | refine zg ?_ _ | refine zi ?_ | refine zh ?_ _)); exact Jj.o⟩, ⟨by (with_reducible repeat (first | refine zg ?_ _ | refine zi ?_ | refine zh ?_ _)); refine zq (cs := #[.int .i64 (rd Jd 0), .int .i64 (rd Jd 1), .int .i64 (rd Jd 2), .int .u64 (rd l0 1), .int .i64 Jc, .int .i64 Je, .int .i64 Jg, .int .i64 Jh, .int .i64 Ji, .int .i64 (wrap64 ((rd Jd (Jt)) - 1))]) ?_ 4 _ rfl; (with_reducible repeat (first | refine zg ?_ _ | refine zi ?_ | refine zh ?_ _)); exact Ja.o⟩, ⟨by repeat (first | (with_reducible first | exact HB.o | apply zl | apply zf | apply zk | refine zm ?_ Js.o | refine zm ?_ JB.o) | exact HB.o)⟩⟩
                ·rw [if_neg c44] at H
                 by_cases c47 : Jw = 1
                 ·subst c47
                  have JI : JZ = 4 := by rw [← J2]; kernel_rfl
                  subst JI
                  have H1 : (cards_Read.l1 k2 l0 Jd (wrap64 (1 + 1)) (rd Jd 0) (rd Jd 1) (rd Jd 2) (rd l0 1) Jc (wrap64 ((rd Jd 4) - 1)) Jg Jh Ji (wrap64 ((rd Jd (Jt)) - 1))) = some (r1, r2, r3, r4, r5, r6, r7, r8, r9, r10, r11) := by rw [if_pos rfl] at H; exact H
                  clear H
                  have H := H1
                  clear H1
                  have H' := ze.mk H
                  clear H
                  have JV : 0 ≤ (4 : Int) := (by omega)
                  have JU : 4 < (Jd.length : Int) := of_decide_eq_true (by first | (with_reducible assumption) | assumption)
                  obtain ⟨JY, e214, Ju⟩ := Kd.zX (Kd.zQ Jl.o).2.2 4 JV JU
                  obtain rfl : JA = JY := (by injection e214)
                  (try simp only [show (4 : Int).toNat = 4 from rfl, Nat.reduceMul, Nat.reduceEqDiff, Go.Addr.add, ↓reduceIte] at Ju)
                  have J7 : (4 < Jd.length) = True := eq_true (by omega)
                  (try rw [show ((4 : Int)).toNat = 4 from rfl] at Ju)
                  replace JV := eq_true JV
                  replace JU := eq_true JU
                  have hnb48 := Jk.o
                  have hnc48 := Jm.o
                  have Jc6 : wr.cell? ⟨Jb, 0, none⟩ = some (.int .i64 (rd Jd 0)) := (zb Ja.o 0).trans rfl
                  have Jc5 : wr.cell? ⟨Jb, 1, none⟩ = some (.int .i64 (rd Jd 1)) := (zb Ja.o 1).trans rfl
                  have Jc4 : wr.cell? ⟨Jb, 2, none⟩ = some (.int .i64 (rd Jd 2)) := (zb Ja.o 2).trans rfl
                  have Jc3 : wr.cell? ⟨Jb, 3, none⟩ = some (.int .u64 (rd l0 1)) := (zb Ja.o 3).trans rfl
                  have Jc2 : wr.cell? ⟨Jb, 4, none⟩ = some (.int .i64 Jc) := (zb Ja.o 4).trans rfl
                  have Jc1 : wr.cell? ⟨Jb, 5, none⟩ = some (.int .i64 Je) := (zb Ja.o 5).trans rfl
                  have Jc0 : wr.cell? ⟨Jb, 6, none⟩ = some (.int .i64 Jg) := (zb Ja.o 6).trans rfl
                  have JcZ : wr.cell? ⟨Jb, 7, none⟩ = some (.int .i64 Jh) := (zb Ja.o 7).trans rfl
                  have JcY : wr.cell? ⟨Jb, 8, none⟩ = some (.int .i64 Ji) := (zb Ja.o 8).trans rfl
                  have JcX : wr.cell? ⟨Jb, 9, none⟩ = some (.int .i64 (wrap64 ((rd Jd (Jt)) - 1))) := (zb Ja.o 9).trans rfl
                  have Ja0 := za Ja.o 0
                  have JaZ := za Ja.o 1
                  have JaY := za Ja.o 2
                  have JaX := za Ja.o 3
                  have JaW := za Ja.o 4
                  have JaV := za Ja.o 5
                  have JaU := za Ja.o 6
                  have JaT := za Ja.o 7
                  have JaS := za Ja.o 8
                  have JaR := za Ja.o 9
                  go_wp2
                  go_roundg k2
                  case measure => have := HK1.o; have := HK2.o; omega
                  case rel => exact ⟨(wrap64 (1 + 1)), (Jc), (wrap64 ((rd Jd 4) - 1)), (Jg), (Jh), (Ji), (by first | rfl | (simp; done) | (simp [*]; done) | kernel_rfl), H', ⟨by have := HK1.o; have := HK2.o; omega⟩, ⟨by (with_reducible repeat (first | apply Kd.zz | apply Kd.zA | apply Kd.zF)); exact Kd.zT (Kd.R_far (p := ⟨Jb, 5, none⟩) (Kd.yD Jl.o Ja.o (by decide)) (fun _ hk => hk.2) (.int .i64 (wrap64 ((rd Jd 4) - 1)))) (fun _ hk => trivial)⟩, ⟨by (with_reducible repeat (first | refine zg ?_ _ | refine zi ?_ | refine zh ?_ _)); refine zB ?_ Jm.o _; (with_reducible repeat (first | refine zg ?_ _ | refine zi ?_ | refine zh ?_ _)); exact Jj.o⟩, ⟨by (with_reducible repeat (first | refine zg ?_ _ | refine zi ?_ | refine zh ?_ _)); refine zq (cs := #[.int .i64 (rd Jd 0), .int .i64 (rd Jd 1), .int .i64 (rd Jd 2), .int .u64 (rd l0 1), .int .i64 Jc, .int .i64 Je, .int .i64 Jg, .int .i64 Jh, .int .i64 Ji, .int .i64 (wrap64 ((rd Jd (Jt)) - 1))]) ?_ 5 _ rfl; (with_reducible repeat (first | refine zg ?_ _ | refine zi ?_ | refine zh ?_ _)); exact Ja.o⟩, ⟨by repeat (first | (with_reducible first | exact HB.o | apply zl | apply zf | apply zk | refine zm ?_ Js.o | refine zm ?_ JB.o) | exact HB.o)⟩⟩
                 ·rw [if_neg c47] at H
                  by_cases c50 : Jw = 2
                  ·subst c50
                   have JI : JZ = 5 := by rw [← J2]; kernel_rfl
                   subst JI
                   have H1 : (cards_Read.l1 k2 l0 Jd (wrap64 (2 + 1)) (rd Jd 0) (rd Jd 1) (rd Jd 2) (rd l0 1) Jc Je (wrap64 ((rd Jd 5) - 1)) Jh Ji (wrap64 ((rd Jd (Jt)) - 1))) = some (r1, r2, r3, r4, r5, r6, r7, r8, r9, r10, r11) := by rw [if_pos rfl] at H; exact H
                   clear H
                   have H := H1
                   clear H1
                   have H' := ze.mk H
                   clear H
                   have JV : 0 ≤ (5 : Int) := (by omega)
                   have JU : 5 < (Jd.length : Int) := of_decide_eq_true (by first | (with_reducible assumption) | assumption)
                   obtain ⟨JY, e214, Ju⟩ := Kd.zX (Kd.zQ Jl.o).2.2 5 JV JU
                   obtain rfl : JA = JY := (by injection e214)
                   (try simp only [show (5 : Int).toNat = 5 from rfl, Nat.reduceMul, Nat.reduceEqDiff, Go.Addr.add, ↓reduceIte] at Ju)
                   have J7 : (5 < Jd.length) = True := eq_true (by omega)
                   (try rw [show ((5 : Int)).toNat = 5 from rfl] at Ju)
                   replace JV := eq_true JV
                   replace JU := eq_true JU
                   have hnb51 := Jk.o
                   have hnc51 := Jm.o
                   have JcW : wr.cell? ⟨Jb, 0, none⟩ = some (.int .i64 (rd Jd 0)) := (zb Ja.o 0).trans rfl
                   have JcV : wr.cell? ⟨Jb, 1, none⟩ = some (.int .i64 (rd Jd 1)) := (zb Ja.o 1).trans rfl
                   have JcU : wr.cell? ⟨Jb, 2, none⟩ = some (.int .i64 (rd Jd 2)) := (zb Ja.o 2).trans rfl
                   have JcT : wr.cell? ⟨Jb, 3, none⟩ = some (.int .u64 (rd l0 1)) := (zb Ja.o 3).trans rfl
                   have JcS : wr.cell? ⟨Jb, 4, none⟩ = some (.int .i64 Jc) := (zb Ja.o 4).trans rfl
                   have JcR : wr.cell? ⟨Jb, 5, none⟩ = some (.int .i64 Je) := (zb Ja.o 5).trans rfl
                   have JcQ : wr.cell? ⟨Jb, 6, none⟩ = some (.int .i64 Jg) := (zb Ja.o 6).trans rfl
                   have JcP : wr.cell? ⟨Jb, 7, none⟩ = some (.int .i64 Jh) := (zb Ja.o 7).trans rfl
                   have JcO : wr.cell? ⟨Jb, 8, none⟩ = some (.int .i64 Ji) := (zb Ja.o 8).trans rfl
                   have JcN : wr.cell? ⟨Jb, 9, none⟩ = some (.int .i64 (wrap64 ((rd Jd (Jt)) - 1))) := (zb Ja.o 9).trans rfl
                   have JaQ := za Ja.o 0
                   have JaP := za Ja.o 1
                   have JaO := za Ja.o 2
                   have JaN := za Ja.o 3
                   have JaM := za Ja.o 4
                   have JaL := za Ja.o 5
                   have JaK := za Ja.o 6
                   have JaJ := za Ja.o 7
                   have JaI := za Ja.o 8
                   have JaH := za Ja.o 9
                   go_wp2
                   go_roundg k2
                   case measure => have := HK1.o; have := HK2.o; omega
                   case rel => exact ⟨(wrap64 (2 + 1)), (Jc), (Je), (wrap64 ((rd Jd 5) - 1)), (Jh), (Ji), (by first | rfl | (simp; done) | (simp [*]; done) | kernel_rfl), H', ⟨by have := HK1.o; have := HK2.o; omega⟩, ⟨by (with_reducible repeat (first | apply Kd.zz | apply Kd.zA | apply Kd.zF)); exact Kd.zT (Kd.R_far (p := ⟨Jb, 6, none⟩) (Kd.yD Jl.o Ja.o (by decide)) (fun _ hk => hk.2) (.int .i64 (wrap64 ((rd Jd 5) - 1)))) (fun _ hk => trivial)⟩, ⟨by (with_reducible repeat (first | refine zg ?_ _ | refine zi ?_ | refine zh ?_ _)); refine zB ?_ Jm.o _; (with_reducible repeat (first | refine zg ?_ _ | refine zi ?_ | refine zh ?_ _)); exact Jj.o⟩, ⟨by (with_reducible repeat (first | refine zg ?_ _ | refine zi ?_ | refine zh ?_ _)); refine zq (cs := #[.int .i64 (rd Jd 0), .int .i64 (rd Jd 1), .int .i64 (rd Jd 2), .int .u64 (rd l0 1), .int .i64 Jc, .int .i64 Je, .int .i64 Jg, .int .i64 Jh, .int .i64 Ji, .int .i64 (wrap64 ((rd Jd (Jt)) - 1))]) ?_ 6 _ rfl; (with_reducible repeat (first | refine zg ?_ _ | refine zi ?_ | refine zh ?_ _)); exact Ja.o⟩, ⟨by repeat (first | (with_reducible first | exact HB.o | apply zl | apply zf | apply zk | refine zm ?_ Js.o | refine zm ?_ JB.o) | exact HB.o)⟩⟩
                  ·rw [if_neg c50] at H
                   by_cases c53 : Jw = 3
                   ·subst c53
                    have JI : JZ = 6 := by rw [← J2]; kernel_rfl
                    subst JI
                    have H1 : (cards_Read.l1 k2 l0 Jd (wrap64 (3 + 1)) (rd Jd 0) (rd Jd 1) (rd Jd 2) (rd l0 1) Jc Je Jg (wrap64 ((rd Jd 6) - 1)) Ji (wrap64 ((rd Jd (Jt)) - 1))) = some (r1, r2, r3, r4, r5, r6, r7, r8, r9, r10, r11) := by rw [if_pos rfl] at H; exact H
                    clear H
                    have H := H1
                    clear H1
                    have H' := ze.mk H
                    clear H
                    have JV : 0 ≤ (6 : Int) := (by omega)
                    have JU : 6 < (Jd.length : Int) := of_decide_eq_true (by first | (with_reducible assumption) | assumption)
                    obtain ⟨JY, e214, Ju⟩ := Kd.zX (Kd.zQ Jl.o).2.2 6 JV JU
                    obtain rfl : JA = JY := (by injection e214)
                    (try simp only [show (6 : Int).toNat = 6 from rfl, Nat.reduceMul, Nat.reduceEqDiff, Go.Addr.add, ↓reduceIte] at Ju)
                    have J7 : (6 < Jd.length) = True := eq_true (by omega)
                    (try rw [show ((6 : Int)).toNat = 6 from rfl] at Ju)
                    replace JV := eq_true JV
                    replace JU := eq_true JU
                    have hnb54 := Jk.o
                    have hnc54 := Jm.o
                    have JcM : wr.cell? ⟨Jb, 0, none⟩ = some (.int .i64 (rd Jd 0)) := (zb Ja.o 0).trans rfl
                    have JcL : wr.cell? ⟨Jb, 1, none⟩ = some (.int .i64 (rd Jd 1)) := (zb Ja.o 1).trans rfl
                    have JcK : wr.cell? ⟨Jb, 2, none⟩ = some (.int .i64 (rd Jd 2)) := (zb Ja.o 2).trans rfl
                    have JcJ : wr.cell? ⟨Jb, 3, none⟩ = some (.int .u64 (rd l0 1)) := (zb Ja.o 3).trans rfl
                    have JcI : wr.cell? ⟨Jb, 4, none⟩ = some (.int .i64 Jc) := (zb Ja.o 4).trans rfl
                    have JcH : wr.cell? ⟨Jb, 5, none⟩ = some (.int .i64 Je) := (zb Ja.o 5).trans rfl
                    have JcG : wr.cell? ⟨Jb, 6, none⟩ = some (.int .i64 Jg) := (zb Ja.o 6).trans rfl
                    have JcF : wr.cell? ⟨Jb, 7, none⟩ = some (.int .i64 Jh) := (zb Ja.o 7).trans rfl
                    have JcE : wr.cell? ⟨Jb, 8, none⟩ = some (.int .i64 Ji) := (zb Ja.o 8).trans rfl
                    have JcD : wr.cell? ⟨Jb, 9, none⟩ = some (.int .i64 (wrap64 ((rd Jd (Jt)) - 1))) := (zb Ja.o 9).trans rfl
                    have JaG := za Ja.o 0
                    have JaF := za Ja.o 1
                    have JaE := za Ja.o 2
                    have JaD := za Ja.o 3
                    have JaC := za Ja.o 4
                    have JaB := za Ja.o 5
                    have JaA := za Ja.o 6
                    have Jaz := za Ja.o 7
                    have Jay := za Ja.o 8
                    have Jax := za Ja.o 9
                    go_wp2
                    go_roundg k2
                    case measure => have := HK1.o; have := HK2.o; omega
                    case rel => exact ⟨(wrap64 (3 + 1)), (Jc), (Je), (Jg), (wrap64 ((rd Jd 6) - 1)), (Ji), (by first | rfl | (simp; done) | (simp [*]; done) | kernel_rfl), H', ⟨by have := HK1.o; have := HK2.o; omega⟩, ⟨by (with_reducible repeat (first | apply Kd.zz | apply Kd.zA | apply Kd.zF)); exact Kd.zT (Kd.R_far (p := ⟨Jb, 7, none⟩) (Kd.yD Jl.o Ja.o (by decide)) (fun _ hk => hk.2) (.int .i64 (wrap64 ((rd Jd 6) - 1)))) (fun _ hk => trivial)⟩, ⟨by (with_reducible repeat (first | refine zg ?_ _ | refine zi ?_ | refine zh ?_ _)); refine zB ?_ Jm.o _; (with_reducible repeat (first | refine zg ?_ _ | refine zi ?_ | refine zh ?_ _)); exact Jj.o⟩, ⟨by (with_reducible repeat (first | refine zg ?_ _ | refine zi ?_ | refine zh ?_ _)); refine zq (cs := #[.int .i64 (rd Jd 0), .int .i64 (rd Jd 1), .int .i64 (rd Jd 2), .int .u64 (rd l0 1), .int .i64 Jc, .int .i64 Je, .int .i64 Jg, .int .i64 Jh, .int .i64 Ji, .int .i64 (wrap64 ((rd Jd (Jt)) - 1))]) ?_ 7 _ rfl; (with_reducible repeat (first | refine zg ?_ _ | refine zi ?_ | refine zh ?_ _)); exact Ja.o⟩, ⟨by repeat (first | (with_reducible first | exact HB.o | apply zl | apply zf | apply zk | refine zm ?_ Js.o | refine zm ?_ JB.o) | exact HB.o)⟩⟩
                   ·rw [if_neg c53] at H
                    by_cases c56 : Jw = 4
                    ·subst c56
                     have JI : JZ = 7 := by rw [← J2]; kernel_rfl
                     subst JI
                     have H1 : (cards_Read.l1 k2 l0 Jd (wrap64 (4 + 1)) (rd Jd 0) (rd Jd 1) (rd Jd 2) (rd l0 1) Jc Je Jg Jh (wrap64 ((rd Jd 7) - 1)) (wrap64 ((rd Jd (Jt)) - 1))) = some (r1, r2, r3, r4, r5, r6, r7, r8, r9, r10, r11) := by rw [if_pos rfl] at H; exact H
                     clear H
                     have H := H1
                     clear H1
                     have H' := ze.mk H
                     clear H
                     have JV : 0 ≤ (7 : Int) := (by omega)
                     have JU : 7 < (Jd.length : Int) := of_decide_eq_true (by first | (with_reducible assumption) | assumption)
                     obtain ⟨JY, e214, Ju⟩ := Kd.zX (Kd.zQ Jl.o).2.2 7 JV JU
                     obtain rfl : JA = JY := (by injection e214)
                     (try simp only [show (7 : Int).toNat = 7 from rfl, Nat.reduceMul, Nat.reduceEqDiff, Go.Addr.add, ↓reduceIte] at Ju)
                     have J7 : (7 < Jd.length) = True := eq_true (by omega)
                     (try rw [show ((7 : Int)).toNat = 7 from rfl] at Ju)
                     replace JV := eq_true JV
                     replace JU := eq_true JU
                     have hnb57 := Jk.o
                     have hnc57 := Jm.o
                     have JcC : wr.cell? ⟨Jb, 0, none⟩ = some (.int .i64 (rd Jd 0)) := (zb Ja.o 0).trans rfl
                     have JcB : wr.cell? ⟨Jb, 1, none⟩ = some (.int .i64 (rd Jd 1)) := (zb Ja.o 1).trans rfl
                     have JcA : wr.cell? ⟨Jb, 2, none⟩ = some (.int .i64 (rd Jd 2)) := (zb Ja.o 2).trans rfl
                     have Jcz : wr.cell? ⟨Jb, 3, none⟩ = some (.int .u64 (rd l0 1)) := (zb Ja.o 3).trans rfl
                     have Jcy : wr.cell? ⟨Jb, 4, none⟩ = some (.int .i64 Jc) := (zb Ja.o 4).trans rfl
                     have Jcx : wr.cell? ⟨Jb, 5, none⟩ = some (.int .i64 Je) := (zb Ja.o 5).trans rfl
                     have Jcw : wr.cell? ⟨Jb, 6, none⟩ = some (.int .i64 Jg) := (zb Ja.o 6).trans rfl
                     have Jcv : wr.cell? ⟨Jb, 7, none⟩ = some (.int .i64 Jh) := (zb Ja.o 7).trans rfl
                     have Jcu : wr.cell? ⟨Jb, 8, none⟩ = some (.int .i64 Ji) := (zb Ja.o 8).trans rfl
                     have Jct : wr.cell? ⟨Jb, 9, none⟩ = some (.int .i64 (wrap64 ((rd Jd (Jt)) - 1))) := (zb Ja.o 9).trans rfl
                     have Jaw := za Ja.o 0
                     have Jav := za Ja.o 1
                     have Jau := za Ja.o 2
                     have Jat := za Ja.o 3
                     have Jas := za Ja.o 4
                     have Jar := za Ja.o 5
                     have Jaq := za Ja.o 6
                     have Jap := za Ja.o 7
                     have Jao := za Ja.o 8
                     have Jan := za Ja.o 9
                     go_wp2
                     go_roundg k2
                     case measure => have := HK1.o; have := HK2.o; omega
                     case rel => exact ⟨(wrap64 (4 + 1)), (Jc), (Je), (Jg), (Jh), (wrap64 ((rd Jd 7) - 1)), (by first | rfl | (simp; done) | (simp [*]; done) | kernel_rfl), H', ⟨by have := HK1.o; have := HK2.o; omega⟩, ⟨by (with_reducible repeat (first | apply Kd.zz | apply Kd.zA | apply Kd.zF)); exact Kd.zT (Kd.R_far (p := ⟨Jb, 8, none⟩) (Kd.yD Jl.o Ja.o (by decide)) (fun _ hk => hk.2) (.int .i64 (wrap64 ((rd Jd 7) - 1)))) (fun _ hk => trivial)⟩, ⟨by (with_reducible repeat (first | refine zg ?_ _ | refine zi ?_ | refine zh ?_ _)); refine zB ?_ Jm.o _; (with_reducible repeat (first | refine zg ?_ _ | refine zi ?_ | refine zh ?_ _)); exact Jj.o⟩, ⟨by (with_reducible repeat (first | refine zg ?_ _ | refine zi ?_ | refine zh ?_ _)); refine zq (cs := #[.int .i64 (rd Jd 0), .int .i64 (rd Jd 1), .int .i64 (rd Jd 2), .int .u64 (rd l0 1), .int .i64 Jc, .int .i64 Je, .int .i64 Jg, .int .i64 Jh, .int .i64 Ji, .int .i64 (wrap64 ((rd Jd (Jt)) - 1))]) ?_ 8 _ rfl; (with_reducible repeat (first | refine zg ?_ _ | refine zi ?_ | refine zh ?_ _)); exact Ja.o⟩, ⟨by repeat (first | (with_reducible first | exact HB.o | apply zl | apply zf | apply zk | refine zm ?_ Js.o | refine zm ?_ JB.o) | exact HB.o)⟩⟩
                    ·rw [if_neg c56] at H
                     exact absurd H (by simp)
               ·rw [if_neg c43] at H
                exact absurd H (by simp)
              ·rw [if_neg c42] at H
               exact absurd H (by simp)
             ·rw [if_neg c40] at H
              have Jdj : decide (Jw < 5) = false := decide_eq_false c40
              clear c40
              replace H := Option.bind_eq_some_iff.mp H
              obtain ⟨⟨J3, t218⟩, A590, H⟩ := H
              replace H : (if t218 = 0 then ((slices_Equal_uint64_uint64.f k2 J3 l0).bind fun Gp => (if Gp = true then (some ((rd Jd 0), (rd Jd 1), (rd Jd 2), (rd l0 1), Jc, Je, Jg, Jh, Ji, (wrap64 ((rd Jd (Jt)) - 1)), 0)) else (some (0, 0, 0, 0, 0, 0, 0, 0, 0, 0, 15)))) else (some (0, 0, 0, 0, 0, 0, 0, 0, 0, 0, 15))) = some (r1, r2, r3, r4, r5, r6, r7, r8, r9, r10, r11) := H
              have A59 := ze.mk A590
              clear A590
              by_cases c60 : t218 = 0
              ·rw [if_pos c60] at H
               have Jdi : (t218 == 0) = true := beq_iff_eq.mpr c60
               have Jdh : (t218 != 0) = false := bne_eq_false_iff_eq.mpr c60
               clear c60
               replace H := Option.bind_eq_some_iff.mp H
               obtain ⟨Gp, A610, H⟩ := H
               replace H : (if Gp = true then (some ((rd Jd 0), (rd Jd 1), (rd Jd 2), (rd l0 1), Jc, Je, Jg, Jh, Ji, (wrap64 ((rd Jd (Jt)) - 1)), 0)) else (some (0, 0, 0, 0, 0, 0, 0, 0, 0, 0, 15))) = some (r1, r2, r3, r4, r5, r6, r7, r8, r9, r10, r11) := H
               have A61 := ze.mk A610
               clear A610
               by_cases c62 : Gp = true
               ·subst c62
                have H1 : (some ((rd Jd 0), (rd Jd 1), (rd Jd 2), (rd l0 1), Jc, Je, Jg, Jh, Ji, (wrap64 ((rd Jd (Jt)) - 1)), 0)) = some (r1, r2, r3, r4, r5, r6, r7, r8, r9, r10, r11) := by rw [if_pos rfl] at H; exact H
                clear H
                have H := H1
                clear H1
                simp only [Option.some.injEq, Prod.mk.injEq] at H
                obtain ⟨rfl, rfl, rfl, rfl, rfl, rfl, rfl, rfl, rfl, rfl, rfl⟩ := H
                have hnb63 := Jk.o
                have hnc63 := Jm.o
                have Jcs : wr.cell? ⟨Jb, 0, none⟩ = some (.int .i64 (rd Jd 0)) := (zb Ja.o 0).trans rfl
                have Jcr : wr.cell? ⟨Jb, 1, none⟩ = some (.int .i64 (rd Jd 1)) := (zb Ja.o 1).trans rfl
                have Jcq : wr.cell? ⟨Jb, 2, none⟩ = some (.int .i64 (rd Jd 2)) := (zb Ja.o 2).trans rfl
                have Jcp : wr.cell? ⟨Jb, 3, none⟩ = some (.int .u64 (rd l0 1)) := (zb Ja.o 3).trans rfl
                have Jco : wr.cell? ⟨Jb, 4, none⟩ = some (.int .i64 Jc) := (zb Ja.o 4).trans rfl
                have Jcn : wr.cell? ⟨Jb, 5, none⟩ = some (.int .i64 Je) := (zb Ja.o 5).trans rfl
                have Jcm : wr.cell? ⟨Jb, 6, none⟩ = some (.int .i64 Jg) := (zb Ja.o 6).trans rfl
                have Jcl : wr.cell? ⟨Jb, 7, none⟩ = some (.int .i64 Jh) := (zb Ja.o 7).trans rfl
                have Jck : wr.cell? ⟨Jb, 8, none⟩ = some (.int .i64 Ji) := (zb Ja.o 8).trans rfl
                have Jcj : wr.cell? ⟨Jb, 9, none⟩ = some (.int .i64 (wrap64 ((rd Jd (Jt)) - 1))) := (zb Ja.o 9).trans rfl
                have Jam := za Ja.o 0
                have Jal := za Ja.o 1
                have Jak := za Ja.o 2
                have Jaj := za Ja.o 3
                have Jai := za Ja.o 4
                have Jah := za Ja.o 5
                have Jag := za Ja.o 6
                have Jaf := za Ja.o 7
                have Jae := za Ja.o 8
                have Jad := za Ja.o 9
                go_wp2_with (first | ((with_reducible refine zN (f := 54) rfl ?_); refine yh (some 77) rfl rfl Tryz.func54 (by kernel_rfl) rfl #[.agg #[.int .i64 (rd Jd 0), .int .i64 (rd Jd 1), .int .i64 (rd Jd 2), .int .u64 (rd l0 1), .int .i64 Jc, .int .i64 Je, .int .i64 Jg, .int .i64 Jh, .int .i64 Ji, .int .i64 (wrap64 ((rd Jd (Jt)) - 1))]] rfl (by (try simp only [List.map_toArray, List.map_cons, List.map_nil]); first | done | (simp only [JX]; rfl) | rfl | (simp only [List.length_drop, List.length_take]; rfl)) ?_; (with_reducible refine (cards_Write.calls k2 (rd Jd 0) (rd Jd 1) (rd Jd 2) (rd l0 1) Jc Je Jg Jh Ji (wrap64 ((rd Jd (Jt)) - 1)) J3 t218 _ A59.o).mono ?_); rintro e w65 ⟨GQ, rfl, ho0, hb⟩; refine ⟨_, rfl, ?_⟩; have n0_ := ze.mk (Kd.zS (by (with_reducible repeat (first | apply Kd.zz | apply Kd.zA | apply Kd.zF)); exact Jl.o) hb); have n1_ := ze.mk (Kd.yf ho0 (zt (by repeat (first | (with_reducible first | exact HB.o | apply zl | apply zf | apply zk | refine zm ?_ Js.o | refine zm ?_ JB.o) | exact HB.o)))); have n2_ := ze.mk (zK (g := Jf) (o := .cells #[.int .i64 0, .int .i64 0, .int .i64 0, .int .u64 0, .int .i64 0, .int .i64 0, .int .i64 0, .int .i64 0, .int .i64 0, .int .i64 0] 37 (0, 0)) (by (with_reducible repeat (first | refine zg ?_ _ | refine zi ?_ | refine zh ?_ _)); exact Jj.o) hb); have n3_ := ze.mk (zK (g := Jb) (o := .cells #[.int .i64 (rd Jd 0), .int .i64 (rd Jd 1), .int .i64 (rd Jd 2), .int .u64 (rd l0 1), .int .i64 Jc, .int .i64 Je, .int .i64 Jg, .int .i64 Jh, .int .i64 Ji, .int .i64 (wrap64 ((rd Jd (Jt)) - 1))] 37 (0, 0)) (by (with_reducible repeat (first | refine zg ?_ _ | refine zi ?_ | refine zh ?_ _)); exact Ja.o) hb); have n4_ := ze.mk (zu (by repeat (first | (with_reducible first | exact HB.o | apply zl | apply zf | apply zk | refine zm ?_ Js.o | refine zm ?_ JB.o) | exact HB.o)) hb); clear Jl; clear Jj; clear Ja; clear HB; have Jl := n0_; have Jy := n1_; have Jj := n2_; have Ja := n3_; have HB := n4_; clear n0_ n1_ n2_ n3_ n4_; (try clear hb); (try clear hb2); (try clear hk); (try clear hi); (try clear ho0); obtain ⟨Ao66, co66, eo66⟩ := Kd.yc Jy.o; subst eo66) | (go_at_call 69; (with_reducible refine (slices_Equal_uint64_uint64.calls k2 _ _ J3 _ _ l0 true _ ?Gc ?Gb ?Ga ?J9 A61.o).mono ?_); (case Gc => repeat (first | exact (Kd.zQ Jy.o).2.2 | (with_reducible refine Kd.ZT ?_ _) | (with_reducible refine Kd.ZR ?_ _) | (with_reducible refine Kd.YL ?_))); (case Gb => exact (Kd.zQ Jy.o).2.1); (case Ga => repeat (first | exact (Kd.zZ HR0.o HB.o) | (with_reducible refine Kd.ZT ?_ _) | (with_reducible refine Kd.ZR ?_ _) | (with_reducible refine Kd.YL ?_))); (case J9 => exact HC0.o); rintro e w' ⟨rfl, ⟨nd, rfl⟩⟩; (try (rw [zW w65]; generalize hq_ : World.drewN w65 _ = w65; have n0_ : ze (Kd.R (Kd.int .u64) 34 w65 w.heap.size (fun _ => True) (.slice Ao66 J3.length co66) J3) := ⟨by rw [← hq_]; exact (by (with_reducible repeat (first | apply Kd.zz | apply Kd.zA | apply Kd.zF)); exact Jy.o)⟩; have n1_ : ze (Kd.R (Kd.int .i64) 3 w65 w.heap.size (fun _ => True) (.slice (some JA) Jd.length Gq) Jd) := ⟨by rw [← hq_]; exact (by (with_reducible repeat (first | apply Kd.zz | apply Kd.zA | apply Kd.zF)); exact Jl.o)⟩; have n2_ : ze (w65.heap[Jf]? = some (.cells #[.int .i64 0, .int .i64 0, .int .i64 0, .int .u64 0, .int .i64 0, .int .i64 0, .int .i64 0, .int .i64 0, .int .i64 0, .int .i64 0] 37 (0, 0))) := ⟨by rw [← hq_]; exact (by (with_reducible repeat (first | refine zg ?_ _ | refine zi ?_ | refine zh ?_ _)); exact Jj.o)⟩; have n3_ : ze (w65.heap[Jb]? = some (.cells #[.int .i64 (rd Jd 0), .int .i64 (rd Jd 1), .int .i64 (rd Jd 2), .int .u64 (rd l0 1), .int .i64 Jc, .int .i64 Je, .int .i64 Jg, .int .i64 Jh, .int .i64 Ji, .int .i64 (wrap64 ((rd Jd (Jt)) - 1))] 37 (0, 0))) := ⟨by rw [← hq_]; exact (by (with_reducible repeat (first | refine zg ?_ _ | refine zi ?_ | refine zh ?_ _)); exact Ja.o)⟩; have n4_ : ze (Below w.heap.size w w65) := ⟨by rw [← hq_]; exact (by repeat (first | (with_reducible first | exact HB.o | apply zl | apply zf | apply zk | refine zm ?_ Js.o | refine zm ?_ JB.o) | exact HB.o))⟩; clear Jy Jl Jj Ja HB hq_; have Jy := n0_; have Jl := n1_; have Jj := n2_; have Ja := n3_; have HB := n4_; clear n0_ n1_ n2_ n3_ n4_)); have Jci : w65.cell? ⟨Jb, 0, none⟩ = some (.int .i64 (rd Jd 0)) := (zb Ja.o 0).trans rfl; have Jch : w65.cell? ⟨Jb, 1, none⟩ = some (.int .i64 (rd Jd 1)) := (zb Ja.o 1).trans rfl; have Jcg : w65.cell? ⟨Jb, 2, none⟩ = some (.int .i64 (rd Jd 2)) := (zb Ja.o 2).trans rfl; have Jcf : w65.cell? ⟨Jb, 3, none⟩ = some (.int .u64 (rd l0 1)) := (zb Ja.o 3).trans rfl; have Jce : w65.cell? ⟨Jb, 4, none⟩ = some (.int .i64 Jc) := (zb Ja.o 4).trans rfl; have Jcd : w65.cell? ⟨Jb, 5, none⟩ = some (.int .i64 Je) := (zb Ja.o 5).trans rfl; have Jcc : w65.cell? ⟨Jb, 6, none⟩ = some (.int .i64 Jg) := (zb Ja.o 6).trans rfl; have Jcb : w65.cell? ⟨Jb, 7, none⟩ = some (.int .i64 Jh) := (zb Ja.o 7).trans rfl; have Jca : w65.cell? ⟨Jb, 8, none⟩ = some (.int .i64 Ji) := (zb Ja.o 8).trans rfl; have Jb9 : w65.cell? ⟨Jb, 9, none⟩ = some (.int .i64 (wrap64 ((rd Jd (Jt)) - 1))) := (zb Ja.o 9).trans rfl; have Jac := za Ja.o 0; have Jab := za Ja.o 1; have Jaa := za Ja.o 2; have BZ := za Ja.o 3; have BX := za Ja.o 4; have BV := za Ja.o 5; have BU := za Ja.o 6; have BS := za Ja.o 7; have BR := za Ja.o 8; have BQ := za Ja.o 9; have Jb8 : w65.cell? ⟨Jf, 0, none⟩ = some (.int .i64 0) := (zb Jj.o 0).trans rfl; have Jb7 : w65.cell? ⟨Jf, 1, none⟩ = some (.int .i64 0) := (zb Jj.o 1).trans rfl; have Jb6 : w65.cell? ⟨Jf, 2, none⟩ = some (.int .i64 0) := (zb Jj.o 2).trans rfl; have Jb5 : w65.cell? ⟨Jf, 3, none⟩ = some (.int .u64 0) := (zb Jj.o 3).trans rfl; have Jb4 : w65.cell? ⟨Jf, 4, none⟩ = some (.int .i64 0) := (zb Jj.o 4).trans rfl; have Jb3 : w65.cell? ⟨Jf, 5, none⟩ = some (.int .i64 0) := (zb Jj.o 5).trans rfl; have Jb2 : w65.cell? ⟨Jf, 6, none⟩ = some (.int .i64 0) := (zb Jj.o 6).trans rfl; have Jb1 : w65.cell? ⟨Jf, 7, none⟩ = some (.int .i64 0) := (zb Jj.o 7).trans rfl; have Jb0 : w65.cell? ⟨Jf, 8, none⟩ = some (.int .i64 0) := (zb Jj.o 8).trans rfl; have JbZ : w65.cell? ⟨Jf, 9, none⟩ = some (.int .i64 0) := (zb Jj.o 9).trans rfl; have BP := za Jj.o 0; have BO := za Jj.o 1; have BM := za Jj.o 2; have BL := za Jj.o 3; have BJ := za Jj.o 4; have BI := za Jj.o 5; have BH := za Jj.o 6; have BG := za Jj.o 7; have BF := za Jj.o 8; have BD := za Jj.o 9) | ((with_reducible refine zJ (t := 37) (p := 2) rfl ?_); refine zH (t := 37) (p := 2) (v := ?vo_w69) (w1 := ((((((((((w65.setCell ⟨Jf, 0, none⟩ (.int .i64 (rd Jd 0))).setCell ⟨Jf, 1, none⟩ (.int .i64 (rd Jd 1))).setCell ⟨Jf, 2, none⟩ (.int .i64 (rd Jd 2))).setCell ⟨Jf, 3, none⟩ (.int .u64 (rd l0 1))).setCell ⟨Jf, 4, none⟩ (.int .i64 Jc)).setCell ⟨Jf, 5, none⟩ (.int .i64 Je)).setCell ⟨Jf, 6, none⟩ (.int .i64 Jg)).setCell ⟨Jf, 7, none⟩ (.int .i64 Jh)).setCell ⟨Jf, 8, none⟩ (.int .i64 Ji)).setCell ⟨Jf, 9, none⟩ (.int .i64 (wrap64 ((rd Jd (Jt)) - 1))))) ?hg ?ho ?hn ?hr ?_; (case ho => rfl); (case hg => rfl); (case hn => rfl); (case hr => exact zM rfl rfl rfl (zP (P := Tryz.prog) (o := 0) (cur := #[.int .i64 0, .int .i64 0, .int .i64 0, .int .u64 0, .int .i64 0, .int .i64 0, .int .i64 0, .int .i64 0, .int .i64 0, .int .i64 0]) 37 (.agg #[.int .i64 (rd Jd 0), .int .i64 (rd Jd 1), .int .i64 (rd Jd 2), .int .u64 (rd l0 1), .int .i64 Jc, .int .i64 Je, .int .i64 Jg, .int .i64 Jh, .int .i64 Ji, .int .i64 (wrap64 ((rd Jd (Jt)) - 1))]) [.int .i64 (rd Jd 0), .int .i64 (rd Jd 1), .int .i64 (rd Jd 2), .int .u64 (rd l0 1), .int .i64 Jc, .int .i64 Je, .int .i64 Jg, .int .i64 Jh, .int .i64 Ji, .int .i64 (wrap64 ((rd Jd (Jt)) - 1))] (show _ = some (Obj.cells #[.int .i64 0, .int .i64 0, .int .i64 0, .int .u64 0, .int .i64 0, .int .i64 0, .int .i64 0, .int .i64 0, .int .i64 0, .int .i64 0] 37 (0, 0)) from (by (with_reducible repeat (first | refine zg ?_ _ | refine zi ?_ | refine zh ?_ _)); exact Jj.o)) rfl (by kernel_rfl) (show 10 ≤ 10 by decide) (by intro q_ hq_; simp only [List.mem_cons, List.not_mem_nil, or_false] at hq_; rcases hq_ with rfl | rfl | rfl | rfl | rfl | rfl | rfl | rfl | rfl | rfl <;> rfl))); intro w69 hw; have n0_ : ze (Kd.R (Kd.int .i64) 3 w69 w.heap.size (fun _ => True) (.slice (some JA) Jd.length Gq) Jd) := ⟨(by rw [hw]; exact (by (with_reducible repeat (first | apply Kd.zz | apply Kd.zA | apply Kd.zF)); exact Kd.zT (Kd.R_far (p := ⟨Jf, 9, none⟩) (Kd.R_far (p := ⟨Jf, 8, none⟩) (Kd.R_far (p := ⟨Jf, 7, none⟩) (Kd.R_far (p := ⟨Jf, 6, none⟩) (Kd.R_far (p := ⟨Jf, 5, none⟩) (Kd.R_far (p := ⟨Jf, 4, none⟩) (Kd.R_far (p := ⟨Jf, 3, none⟩) (Kd.R_far (p := ⟨Jf, 2, none⟩) (Kd.R_far (p := ⟨Jf, 1, none⟩) (Kd.R_far (p := ⟨Jf, 0, none⟩) (Kd.yD Jl.o Jj.o (by decide)) (fun _ hk => hk.2) (.int .i64 (rd Jd 0))) (fun _ hk => hk.2) (.int .i64 (rd Jd 1))) (fun _ hk => hk.2) (.int .i64 (rd Jd 2))) (fun _ hk => hk.2) (.int .u64 (rd l0 1))) (fun _ hk => hk.2) (.int .i64 Jc)) (fun _ hk => hk.2) (.int .i64 Je)) (fun _ hk => hk.2) (.int .i64 Jg)) (fun _ hk => hk.2) (.int .i64 Jh)) (fun _ hk => hk.2) (.int .i64 Ji)) (fun _ hk => hk.2) (.int .i64 (wrap64 ((rd Jd (Jt)) - 1)))) (fun _ hk => trivial)))⟩; have n1_ : ze (Kd.R (Kd.int .u64) 34 w69 w.heap.size (fun _ => True) (.slice Ao66 J3.length co66) J3) := ⟨(by rw [hw]; exact (by (with_reducible repeat (first | apply Kd.zz | apply Kd.zA | apply Kd.zF)); exact Kd.zT (Kd.R_far (p := ⟨Jf, 9, none⟩) (Kd.R_far (p := ⟨Jf, 8, none⟩) (Kd.R_far (p := ⟨Jf, 7, none⟩) (Kd.R_far (p := ⟨Jf, 6, none⟩) (Kd.R_far (p := ⟨Jf, 5, none⟩) (Kd.R_far (p := ⟨Jf, 4, none⟩) (Kd.R_far (p := ⟨Jf, 3, none⟩) (Kd.R_far (p := ⟨Jf, 2, none⟩) (Kd.R_far (p := ⟨Jf, 1, none⟩) (Kd.R_far (p := ⟨Jf, 0, none⟩) (Kd.yD Jy.o Jj.o (by decide)) (fun _ hk => hk.2) (.int .i64 (rd Jd 0))) (fun _ hk => hk.2) (.int .i64 (rd Jd 1))) (fun _ hk => hk.2) (.int .i64 (rd Jd 2))) (fun _ hk => hk.2) (.int .u64 (rd l0 1))) (fun _ hk => hk.2) (.int .i64 Jc)) (fun _ hk => hk.2) (.int .i64 Je)) (fun _ hk => hk.2) (.int .i64 Jg)) (fun _ hk => hk.2) (.int .i64 Jh)) (fun _ hk => hk.2) (.int .i64 Ji)) (fun _ hk => hk.2) (.int .i64 (wrap64 ((rd Jd (Jt)) - 1)))) (fun _ hk => trivial)))⟩; have n2_ : ze (w69.heap[Jf]? = some (.cells #[.int .i64 (rd Jd 0), .int .i64 (rd Jd 1), .int .i64 (rd Jd 2), .int .u64 (rd l0 1), .int .i64 Jc, .int .i64 Je, .int .i64 Jg, .int .i64 Jh, .int .i64 Ji, .int .i64 (wrap64 ((rd Jd (Jt)) - 1))] 37 (0, 0))) := ⟨(by rw [hw]; exact (by (with_reducible repeat (first | refine zg ?_ _ | refine zi ?_ | refine zh ?_ _)); refine zq (cs := #[.int .i64 (rd Jd 0), .int .i64 (rd Jd 1), .int .i64 (rd Jd 2), .int .u64 (rd l0 1), .int .i64 Jc, .int .i64 Je, .int .i64 Jg, .int .i64 Jh, .int .i64 Ji, .int .i64 0]) ?_ 9 _ rfl; (with_reducible repeat (first | refine zg ?_ _ | refine zi ?_ | refine zh ?_ _)); refine zq (cs := #[.int .i64 (rd Jd 0), .int .i64 (rd Jd 1), .int .i64 (rd Jd 2), .int .u64 (rd l0 1), .int .i64 Jc, .int .i64 Je, .int .i64 Jg, .int .i64 Jh, .int .i64 0, .int .i64 0]) ?_ 8 _ rfl; (with_reducible repeat (first | refine zg ?_ _ | refine zi ?_ | refine zh ?_ _)); refine zq (cs := #[.int .i64 (rd Jd 0), .int .i64 (rd Jd 1), .int .i64 (rd Jd 2), .int .u64 (rd l0 1), .int .i64 Jc, .int .i64 Je, .int .i64 Jg, .int .i64 0, .int .i64 0, .int .i64 0]) ?_ 7 _ rfl; (with_reducible repeat (first | refine zg ?_ _ | refine zi ?_ | refine zh ?_ _)); refine zq (cs := #[.int .i64 (rd Jd 0), .int .i64 (rd Jd 1), .int .i64 (rd Jd 2), .int .u64 (rd l0 1), .int .i64 Jc, .int .i64 Je, .int .i64 0, .int .i64 0, .int .i64 0, .int .i64 0]) ?_ 6 _ rfl; (with_reducible repeat (first | refine zg ?_ _ | refine zi ?_ | refine zh ?_ _)); refine zq (cs := #[.int .i64 (rd Jd 0), .int .i64 (rd Jd 1), .int .i64 (rd Jd 2), .int .u64 (rd l0 1), .int .i64 Jc, .int .i64 0, .int .i64 0, .int .i64 0, .int .i64 0, .int .i64 0]) ?_ 5 _ rfl; (with_reducible repeat (first | refine zg ?_ _ | refine zi ?_ | refine zh ?_ _)); refine zq (cs := #[.int .i64 (rd Jd 0), .int .i64 (rd Jd 1), .int .i64 (rd Jd 2), .int .u64 (rd l0 1), .int .i64 0, .int .i64 0, .int .i64 0, .int .i64 0, .int .i64 0, .int .i64 0]) ?_ 4 _ rfl; (with_reducible repeat (first | refine zg ?_ _ | refine zi ?_ | refine zh ?_ _)); refine zq (cs := #[.int .i64 (rd Jd 0), .int .i64 (rd Jd 1), .int .i64 (rd Jd 2), .int .u64 0, .int .i64 0, .int .i64 0, .int .i64 0, .int .i64 0, .int .i64 0, .int .i64 0]) ?_ 3 _ rfl; (with_reducible repeat (first | refine zg ?_ _ | refine zi ?_ | refine zh ?_ _)); refine zq (cs := #[.int .i64 (rd Jd 0), .int .i64 (rd Jd 1), .int .i64 0, .int .u64 0, .int .i64 0, .int .i64 0, .int .i64 0, .int .i64 0, .int .i64 0, .int .i64 0]) ?_ 2 _ rfl; (with_reducible repeat (first | refine zg ?_ _ | refine zi ?_ | refine zh ?_ _)); refine zq (cs := #[.int .i64 (rd Jd 0), .int .i64 0, .int .i64 0, .int .u64 0, .int .i64 0, .int .i64 0, .int .i64 0, .int .i64 0, .int .i64 0, .int .i64 0]) ?_ 1 _ rfl; (with_reducible repeat (first | refine zg ?_ _ | refine zi ?_ | refine zh ?_ _)); refine zq (cs := #[.int .i64 0, .int .i64 0, .int .i64 0, .int .u64 0, .int .i64 0, .int .i64 0, .int .i64 0, .int .i64 0, .int .i64 0, .int .i64 0]) ?_ 0 _ rfl; (with_reducible repeat (first | refine zg ?_ _ | refine zi ?_ | refine zh ?_ _)); exact Jj.o))⟩; have n3_ : ze (w69.heap[Jb]? = some (.cells #[.int .i64 (rd Jd 0), .int .i64 (rd Jd 1), .int .i64 (rd Jd 2), .int .u64 (rd l0 1), .int .i64 Jc, .int .i64 Je, .int .i64 Jg, .int .i64 Jh, .int .i64 Ji, .int .i64 (wrap64 ((rd Jd (Jt)) - 1))] 37 (0, 0))) := ⟨(by rw [hw]; exact (by (with_reducible repeat (first | refine zg ?_ _ | refine zi ?_ | refine zh ?_ _)); refine zB ?_ Jk.o _; (with_reducible repeat (first | refine zg ?_ _ | refine zi ?_ | refine zh ?_ _)); refine zB ?_ Jk.o _; (with_reducible repeat (first | refine zg ?_ _ | refine zi ?_ | refine zh ?_ _)); refine zB ?_ Jk.o _; (with_reducible repeat (first | refine zg ?_ _ | refine zi ?_ | refine zh ?_ _)); refine zB ?_ Jk.o _; (with_reducible repeat (first | refine zg ?_ _ | refine zi ?_ | refine zh ?_ _)); refine zB ?_ Jk.o _; (with_reducible repeat (first | refine zg ?_ _ | refine zi ?_ | refine zh ?_ _)); refine zB ?_ Jk.o _; (with_reducible repeat (first | refine zg ?_ _ | refine zi ?_ | refine zh ?_ _)); refine zB ?_ Jk.o _; (with_reducible repeat (first | refine zg ?_ _ | refine zi ?_ | refine zh ?_ _)); refine zB ?_ Jk.o _; (with_reducible repeat (first | refine zg ?_ _ | refine zi ?_ | refine zh ?_ _)); refine zB ?_ Jk.o _; (with_reducible repeat (first | refine zg ?_ _ | refine zi ?_ | refine zh ?_ _)); refine zB ?_ Jk.o _; (with_reducible repeat (first | refine zg ?_ _ | refine zi ?_ | refine zh ?_ _)); exact Ja.o))⟩; have n4_ : ze (Below w.heap.size w w69) := ⟨(by rw [hw]; exact (by repeat (first | (with_reducible first | exact HB.o | apply zl | apply zf | apply zk | refine zm ?_ Js.o | refine zm ?_ JB.o) | exact HB.o)))⟩; clear hw; clear Jl; clear Jy; clear Jj; clear Ja; clear HB; have Jl := n0_; have Jy := n1_; have Jj := n2_; have Ja := n3_; have HB := n4_; clear n0_ n1_ n2_ n3_ n4_))
                refine bodyPost_ret (yE rfl _ _ Jf 37 #[.int .i64 (rd Jd 0), .int .i64 (rd Jd 1), .int .i64 (rd Jd 2), .int .u64 (rd l0 1), .int .i64 Jc, .int .i64 Je, .int .i64 Jg, .int .i64 Jh, .int .i64 Ji, .int .i64 (wrap64 ((rd Jd (Jt)) - 1))] (0, 0) _ rfl (by (with_reducible repeat (first | refine zg ?_ _ | refine zi ?_ | refine zh ?_ _)); exact Jj.o) Tryz.underlying37 rfl (by kernel_rfl)) rfl ?_
                exact ⟨by first | rfl | (simp [zy, zx] <;> rfl) | (simp only [← JX]; first | rfl | (simp [zy, zx] <;> rfl)) | (simp [*, zy, zx] <;> rfl), by repeat (first | (with_reducible first | exact HB.o | apply zl | apply zf | apply zk | refine zm ?_ Js.o | refine zm ?_ JB.o) | exact HB.o)⟩
               ·replace c62 := Bool.eq_false_iff.mpr c62
                subst c62
                have H1 : (some (0, 0, 0, 0, 0, 0, 0, 0, 0, 0, 15)) = some (r1, r2, r3, r4, r5, r6, r7, r8, r9, r10, r11) := by rw [if_neg (show ¬ (false = true) by decide)] at H; exact H
                clear H
                have H := H1
                clear H1
                simp only [Option.some.injEq, Prod.mk.injEq] at H
                obtain ⟨rfl, rfl, rfl, rfl, rfl, rfl, rfl, rfl, rfl, rfl, rfl⟩ := H
                have hnb70 := Jk.o
                have hnc70 := Jm.o
                have JbY : wr.cell? ⟨Jb, 0, none⟩ = some (.int .i64 (rd Jd 0)) := (zb Ja.o 0).trans rfl
                have JbX : wr.cell? ⟨Jb, 1, none⟩ = some (.int .i64 (rd Jd 1)) := (zb Ja.o 1).trans rfl
                have JbW : wr.cell? ⟨Jb, 2, none⟩ = some (.int .i64 (rd Jd 2)) := (zb Ja.o 2).trans rfl
                have JbV : wr.cell? ⟨Jb, 3, none⟩ = some (.int .u64 (rd l0 1)) := (zb Ja.o 3).trans rfl
                have JbU : wr.cell? ⟨Jb, 4, none⟩ = some (.int .i64 Jc) := (zb Ja.o 4).trans rfl
                have JbT : wr.cell? ⟨Jb, 5, none⟩ = some (.int .i64 Je) := (zb Ja.o 5).trans rfl
                have JbS : wr.cell? ⟨Jb, 6, none⟩ = some (.int .i64 Jg) := (zb Ja.o 6).trans rfl
                have JbR : wr.cell? ⟨Jb, 7, none⟩ = some (.int .i64 Jh) := (zb Ja.o 7).trans rfl
                have JbQ : wr.cell? ⟨Jb, 8, none⟩ = some (.int .i64 Ji) := (zb Ja.o 8).trans rfl
                have JbP : wr.cell? ⟨Jb, 9, none⟩ = some (.int .i64 (wrap64 ((rd Jd (Jt)) - 1))) := (zb Ja.o 9).trans rfl
                have BC := za Ja.o 0
                have BA := za Ja.o 1
                have Bz := za Ja.o 2
                have Bw := za Ja.o 3
                have Bv := za Ja.o 4
                have Bu := za Ja.o 5
                have Bt := za Ja.o 6
                have Br := za Ja.o 7
                have Bq := za Ja.o 8
                have Bp := za Ja.o 9
                go_wp2_with (first | ((with_reducible refine zN (f := 54) rfl ?_); refine yh (some 77) rfl rfl Tryz.func54 (by kernel_rfl) rfl #[.agg #[.int .i64 (rd Jd 0), .int .i64 (rd Jd 1), .int .i64 (rd Jd 2), .int .u64 (rd l0 1), .int .i64 Jc, .int .i64 Je, .int .i64 Jg, .int .i64 Jh, .int .i64 Ji, .int .i64 (wrap64 ((rd Jd (Jt)) - 1))]] rfl (by (try simp only [List.map_toArray, List.map_cons, List.map_nil]); first | done | (simp only [JX]; rfl) | rfl | (simp only [List.length_drop, List.length_take]; rfl)) ?_; (with_reducible refine (cards_Write.calls k2 (rd Jd 0) (rd Jd 1) (rd Jd 2) (rd l0 1) Jc Je Jg Jh Ji (wrap64 ((rd Jd (Jt)) - 1)) J3 t218 _ A59.o).mono ?_); rintro e w72 ⟨GQ, rfl, ho0, hb⟩; refine ⟨_, rfl, ?_⟩; have n0_ := ze.mk (Kd.zS (by (with_reducible repeat (first | apply Kd.zz | apply Kd.zA | apply Kd.zF)); exact Jl.o) hb); have n1_ := ze.mk (Kd.yf ho0 (zt (by repeat (first | (with_reducible first | exact HB.o | apply zl | apply zf | apply zk | refine zm ?_ Js.o | refine zm ?_ JB.o) | exact HB.o)))); have n2_ := ze.mk (zK (g := Jf) (o := .cells #[.int .i64 0, .int .i64 0, .int .i64 0, .int .u64 0, .int .i64 0, .int .i64 0, .int .i64 0, .int .i64 0, .int .i64 0, .int .i64 0] 37 (0, 0)) (by (with_reducible repeat (first | refine zg ?_ _ | refine zi ?_ | refine zh ?_ _)); exact Jj.o) hb); have n3_ := ze.mk (zK (g := Jb) (o := .cells #[.int .i64 (rd Jd 0), .int .i64 (rd Jd 1), .int .i64 (rd Jd 2), .int .u64 (rd l0 1), .int .i64 Jc, .int .i64 Je, .int .i64 Jg, .int .i64 Jh, .int .i64 Ji, .int .i64 (wrap64 ((rd Jd (Jt)) - 1))] 37 (0, 0)) (by (with_reducible repeat (first | refine zg ?_ _ | refine zi ?_ | refine zh ?_ _)); exact Ja.o) hb); have n4_ := ze.mk (zu (by repeat (first | (with_reducible first | exact HB.o | apply zl | apply zf | apply zk | refine zm ?_ Js.o | refine zm ?_ JB.o) | exact HB.o)) hb); clear Jl; clear Jj; clear Ja; clear HB; have Jl := n0_; have Jy := n1_; have Jj := n2_; have Ja := n3_; have HB := n4_; clear n0_ n1_ n2_ n3_ n4_; (try clear hb); (try clear hb2); (try clear hk); (try clear hi); (try clear ho0); obtain ⟨Ao73, co73, eo73⟩ := Kd.yc Jy.o; subst eo73) | (go_at_call 69; (with_reducible refine (slices_Equal_uint64_uint64.calls k2 _ _ J3 _ _ l0 false _ ?Gc ?Gb ?Ga ?J9 A61.o).mono ?_); (case Gc => repeat (first | exact (Kd.zQ Jy.o).2.2 | (with_reducible refine Kd.ZT ?_ _) | (with_reducible refine Kd.ZR ?_ _) | (with_reducible refine Kd.YL ?_))); (case Gb => exact (Kd.zQ Jy.o).2.1); (case Ga => repeat (first | exact (Kd.zZ HR0.o HB.o) | (with_reducible refine Kd.ZT ?_ _) | (with_reducible refine Kd.ZR ?_ _) | (with_reducible refine Kd.YL ?_))); (case J9 => exact HC0.o); rintro e w' ⟨rfl, ⟨nd, rfl⟩⟩; (try (rw [zW w72]; generalize hq_ : World.drewN w72 _ = w72; have n0_ : ze (Kd.R (Kd.int .u64) 34 w72 w.heap.size (fun _ => True) (.slice Ao73 J3.length co73) J3) := ⟨by rw [← hq_]; exact (by (with_reducible repeat (first | apply Kd.zz | apply Kd.zA | apply Kd.zF)); exact Jy.o)⟩; have n1_ : ze (Kd.R (Kd.int .i64) 3 w72 w.heap.size (fun _ => True) (.slice (some JA) Jd.length Gq) Jd) := ⟨by rw [← hq_]; exact (by (with_reducible repeat (first | apply Kd.zz | apply Kd.zA | apply Kd.zF)); exact Jl.o)⟩; have n2_ : ze (w72.heap[Jf]? = some (.cells #[.int .i64 0, .int .i64 0, .int .i64 0, .int .u64 0, .int .i64 0, .int .i64 0, .int .i64 0, .int .i64 0, .int .i64 0, .int .i64 0] 37 (0, 0))) := ⟨by rw [← hq_]; exact (by (with_reducible repeat (first | refine zg ?_ _ | refine zi ?_ | refine zh ?_ _)); exact Jj.o)⟩; have n3_ : ze (w72.heap[Jb]? = some (.cells #[.int .i64 (rd Jd 0), .int .i64 (rd Jd 1), .int .i64 (rd Jd 2), .int .u64 (rd l0 1), .int .i64 Jc, .int .i64 Je, .int .i64 Jg, .int .i64 Jh, .int .i64 Ji, .int .i64 (wrap64 ((rd Jd (Jt)) - 1))] 37 (0, 0))) := ⟨by rw [← hq_]; exact (by (with_reducible repeat (first | refine zg ?_ _ | refine zi ?_ | refine zh ?_ _)); exact Ja.o)⟩; have n4_ : ze (Below w.heap.size w w72) := ⟨by rw [← hq_]; exact (by repeat (first | (with_reducible first | exact HB.o | apply zl | apply zf | apply zk | refine zm ?_ Js.o | refine zm ?_ JB.o) | exact HB.o))⟩; clear Jy Jl Jj Ja HB hq_; have Jy := n0_; have Jl := n1_; have Jj := n2_; have Ja := n3_; have HB := n4_; clear n0_ n1_ n2_ n3_ n4_)); have JbO : w72.cell? ⟨Jf, 0, none⟩ = some (.int .i64 0) := (zb Jj.o 0).trans rfl; have JbN : w72.cell? ⟨Jf, 1, none⟩ = some (.int .i64 0) := (zb Jj.o 1).trans rfl; have JbM : w72.cell? ⟨Jf, 2, none⟩ = some (.int .i64 0) := (zb Jj.o 2).trans rfl; have JbL : w72.cell? ⟨Jf, 3, none⟩ = some (.int .u64 0) := (zb Jj.o 3).trans rfl; have JbK : w72.cell? ⟨Jf, 4, none⟩ = some (.int .i64 0) := (zb Jj.o 4).trans rfl; have JbJ : w72.cell? ⟨Jf, 5, none⟩ = some (.int .i64 0) := (zb Jj.o 5).trans rfl; have JbI : w72.cell? ⟨Jf, 6, none⟩ = some (.int .i64 0) := (zb Jj.o 6).trans rfl; have JbH : w72.cell? ⟨Jf, 7, none⟩ = some (.int .i64 0) := (zb Jj.o 7).trans rfl; have JbG : w72.cell? ⟨Jf, 8, none⟩ = some (.int .i64 0) := (zb Jj.o 8).trans rfl; have JbF : w72.cell? ⟨Jf, 9, none⟩ = some (.int .i64 0) := (zb Jj.o 9).trans rfl; have Bo := za Jj.o 0; have Bn := za Jj.o 1; have Bl := za Jj.o 2; have Bj := za Jj.o 3; have Bi := za Jj.o 4; have Bh := za Jj.o 5; have Bg := za Jj.o 6; have Bf := za Jj.o 7; have Be := za Jj.o 8; have Bd := za Jj.o 9) | ((with_reducible refine zJ (t := 37) (p := 2) rfl ?_); refine zH (t := 37) (p := 2) (v := ?vo_w75) (w1 := ((((((((((w72.setCell ⟨Jf, 0, none⟩ (.int .i64 0)).setCell ⟨Jf, 1, none⟩ (.int .i64 0)).setCell ⟨Jf, 2, none⟩ (.int .i64 0)).setCell ⟨Jf, 3, none⟩ (.int .u64 0)).setCell ⟨Jf, 4, none⟩ (.int .i64 0)).setCell ⟨Jf, 5, none⟩ (.int .i64 0)).setCell ⟨Jf, 6, none⟩ (.int .i64 0)).setCell ⟨Jf, 7, none⟩ (.int .i64 0)).setCell ⟨Jf, 8, none⟩ (.int .i64 0)).setCell ⟨Jf, 9, none⟩ (.int .i64 0))) ?hg ?ho ?hn ?hr ?_; (case ho => rfl); (case hg => rfl); (case hn => rfl); (case hr => exact zM rfl rfl rfl (zP (P := Tryz.prog) (o := 0) (cur := #[.int .i64 0, .int .i64 0, .int .i64 0, .int .u64 0, .int .i64 0, .int .i64 0, .int .i64 0, .int .i64 0, .int .i64 0, .int .i64 0]) 37 (.agg #[.int .i64 0, .int .i64 0, .int .i64 0, .int .u64 0, .int .i64 0, .int .i64 0, .int .i64 0, .int .i64 0, .int .i64 0, .int .i64 0]) [.int .i64 0, .int .i64 0, .int .i64 0, .int .u64 0, .int .i64 0, .int .i64 0, .int .i64 0, .int .i64 0, .int .i64 0, .int .i64 0] (show _ = some (Obj.cells #[.int .i64 0, .int .i64 0, .int .i64 0, .int .u64 0, .int .i64 0, .int .i64 0, .int .i64 0, .int .i64 0, .int .i64 0, .int .i64 0] 37 (0, 0)) from (by (with_reducible repeat (first | refine zg ?_ _ | refine zi ?_ | refine zh ?_ _)); exact Jj.o)) rfl (by kernel_rfl) (show 10 ≤ 10 by decide) (by intro q_ hq_; simp only [List.mem_cons, List.not_mem_nil, or_false] at hq_; rcases hq_ with rfl | rfl | rfl | rfl | rfl | rfl | rfl | rfl | rfl | rfl <;> rfl))); intro w75 hw; have n0_ : ze (Kd.R (Kd.int .i64) 3 w75 w.heap.size (fun _ => True) (.slice (some JA) Jd.length Gq) Jd) := ⟨(by rw [hw]; exact (by (with_reducible repeat (first | apply Kd.zz | apply Kd.zA | apply Kd.zF)); exact Kd.zT (Kd.R_far (p := ⟨Jf, 9, none⟩) (Kd.R_far (p := ⟨Jf, 8, none⟩) (Kd.R_far (p := ⟨Jf, 7, none⟩) (Kd.R_far (p := ⟨Jf, 6, none⟩) (Kd.R_far (p := ⟨Jf, 5, none⟩) (Kd.R_far (p := ⟨Jf, 4, none⟩) (Kd.R_far (p := ⟨Jf, 3, none⟩) (Kd.R_far (p := ⟨Jf, 2, none⟩) (Kd.R_far (p := ⟨Jf, 1, none⟩) (Kd.R_far (p := ⟨Jf, 0, none⟩) (Kd.yD Jl.o Jj.o (by decide)) (fun _ hk => hk.2) (.int .i64 0)) (fun _ hk => hk.2) (.int .i64 0)) (fun _ hk => hk.2) (.int .i64 0)) (fun _ hk => hk.2) (.int .u64 0)) (fun _ hk => hk.2) (.int .i64 0)) (fun _ hk => hk.2) (.int .i64 0)) (fun _ hk => hk.2) (.int .i64 0)) (fun _ hk => hk.2) (.int .i64 0)) (fun _ hk => hk.2) (.int .i64 0)) (fun _ hk => hk.2) (.int .i64 0)) (fun _ hk => trivial)))⟩; have n1_ : ze (Kd.R (Kd.int .u64) 34 w75 w.heap.size (fun _ => True) (.slice Ao73 J3.length co73) J3) := ⟨(by rw [hw]; exact (by (with_reducible repeat (first | apply Kd.zz | apply Kd.zA | apply Kd.zF)); exact Kd.zT (Kd.R_far (p := ⟨Jf, 9, none⟩) (Kd.R_far (p := ⟨Jf, 8, none⟩) (Kd.R_far (p := ⟨Jf, 7, none⟩) (Kd.R_far (p := ⟨Jf, 6, none⟩) (Kd.R_far (p := ⟨Jf, 5, none⟩) (Kd.R_far (p := ⟨Jf, 4, none⟩) (Kd.R_far (p := ⟨Jf, 3, none⟩) (Kd.R_far (p := ⟨Jf, 2, none⟩) (Kd.R_far (p := ⟨Jf, 1, none⟩) (Kd.R_far (p := ⟨Jf, 0, none⟩) (Kd.yD Jy.o Jj.o (by decide)) (fun _ hk => hk.2) (.int .i64 0)) (fun _ hk => hk.2) (.int .i64 0)) (fun _ hk => hk.2) (.int .i64 0)) (fun _ hk => hk.2) (.int .u64 0)) (fun _ hk => hk.2) (.int .i64 0)) (fun _ hk => hk.2) (.int .i64 0)) (fun _ hk => hk.2) (.int .i64 0)) (fun _ hk => hk.2) (.int .i64 0)) (fun _ hk => hk.2) (.int .i64 0)) (fun _ hk => hk.2) (.int .i64 0)) (fun _ hk => trivial)))⟩; have n2_ : ze (w75.heap[Jf]? = some (.cells #[.int .i64 0, .int .i64 0, .int .i64 0, .int .u64 0, .int .i64 0, .int .i64 0, .int .i64 0, .int .i64 0, .int .i64 0, .int .i64 0] 37 (0, 0))) := ⟨(by rw [hw]; exact (by (with_reducible repeat (first | refine zg ?_ _ | refine zi ?_ | refine zh ?_ _)); refine zq (cs := #[.int .i64 0, .int .i64 0, .int .i64 0, .int .u64 0, .int .i64 0, .int .i64 0, .int .i64 0, .int .i64 0, .int .i64 0, .int .i64 0]) ?_ 9 _ rfl; (with_reducible repeat (first | refine zg ?_ _ | refine zi ?_ | refine zh ?_ _)); refine zq (cs := #[.int .i64 0, .int .i64 0, .int .i64 0, .int .u64 0, .int .i64 0, .int .i64 0, .int .i64 0, .int .i64 0, .int .i64 0, .int .i64 0]) ?_ 8 _ rfl; (with_reducible repeat (first | refine zg ?_ _ | refine zi ?_ | refine zh ?_ _)); refine zq (cs := #[.int .i64 0, .int .i64 0, .int .i64 0, .int .u64 0, .int .i64 0, .int .i64 0, .int .i64 0, .int .i64 0, .int .i64 0, .int .i64 0]) ?_ 7 _ rfl; (with_reducible repeat (first | refine zg ?_ _ | refine zi ?_ | refine zh ?_ _)); refine zq (cs := #[.int .i64 0, .int .i64 0, .int .i64 0, .int .u64 0, .int .i64 0, .int .i64 0, .int .i64 0, .int .i64 0, .int .i64 0, .int .i64 0]) ?_ 6 _ rfl; (with_reducible repeat (first | refine zg ?_ _ | refine zi ?_ | refine zh ?_ _)); refine zq (cs := #[.int .i64 0, .int .i64 0, .int .i64 0, .int .u64 0, .int .i64 0, .int .i64 0, .int .i64 0, .int .i64 0, .int .i64 0, .int .i64 0]) ?_ 5 _ rfl; (with_reducible repeat (first | refine zg ?_ _ | refine zi ?_ | refine zh ?_ _)); refine zq (cs := #[.int .i64 0, .int .i64 0, .int .i64 0, .int .u64 0, .int .i64 0, .int .i64 0, .int .i64 0, .int .i64 0, .int .i64 0, .int .i64 0]) ?_ 4 _ rfl; (with_reducible repeat (first | refine zg ?_ _ | refine zi ?_ | refine zh ?_ _)); refine zq (cs := #[.int .i64 0, .int .i64 0, .int .i64 0, .int .u64 0, .int .i64 0, .int .i64 0, .int .i64 0, .int .i64 0, .int .i64 0, .int .i64 0]) ?_ 3 _ rfl; (with_reducible repeat (first | refine zg ?_ _ | refine zi ?_ | refine zh ?_ _)); refine zq (cs := #[.int .i64 0, .int .i64 0, .int .i64 0, .int .u64 0, .int .i64 0, .int .i64 0, .int .i64 0, .int .i64 0, .int .i64 0, .int .i64 0]) ?_ 2 _ rfl; (with_reducible repeat (first | refine zg ?_ _ | refine zi ?_ | refine zh ?_ _)); refine zq (cs := #[.int .i64 0, .int .i64 0, .int .i64 0, .int .u64 0, .int .i64 0, .int .i64 0, .int .i64 0, .int .i64 0, .int .i64 0, .int .i64 0]) ?_ 1 _ rfl; (with_reducible repeat (first | refine zg ?_ _ | refine zi ?_ | refine zh ?_ _)); refine zq (cs := #[.int .i64 0, .int .i64 0, .int .i64 0, .int .u64 0, .int .i64 0, .int .i64 0, .int .i64 0, .int .i64 0, .int .i64 0, .int .i64 0]) ?_ 0 _ rfl; (with_reducible repeat (first | refine zg ?_ _ | refine zi ?_ | refine zh ?_ _)); exact Jj.o))⟩; have n3_ : ze (w75.heap[Jb]? = some (.cells #[.int .i64 (rd Jd 0), .int .i64 (rd Jd 1), .int .i64 (rd Jd 2), .int .u64 (rd l0 1), .int .i64 Jc, .int .i64 Je, .int .i64 Jg, .int .i64 Jh, .int .i64 Ji, .int .i64 (wrap64 ((rd Jd (Jt)) - 1))] 37 (0, 0))) := ⟨(by rw [hw]; exact (by (with_reducible repeat (first | refine zg ?_ _ | refine zi ?_ | refine zh ?_ _)); refine zB ?_ Jk.o _; (with_reducible repeat (first | refine zg ?_ _ | refine zi ?_ | refine zh ?_ _)); refine zB ?_ Jk.o _; (with_reducible repeat (first | refine zg ?_ _ | refine zi ?_ | refine zh ?_ _)); refine zB ?_ Jk.o _; (with_reducible repeat (first | refine zg ?_ _ | refine zi ?_ | refine zh ?_ _)); refine zB ?_ Jk.o _; (with_reducible repeat (first | refine zg ?_ _ | refine zi ?_ | refine zh ?_ _)); refine zB ?_ Jk.o _; (with_reducible repeat (first | refine zg ?_ _ | refine zi ?_ | refine zh ?_ _)); refine zB ?_ Jk.o _; (with_reducible repeat (first | refine zg ?_ _ | refine zi ?_ | refine zh ?_ _)); refine zB ?_ Jk.o _; (with_reducible repeat (first | refine zg ?_ _ | refine zi ?_ | refine zh ?_ _)); refine zB ?_ Jk.o _; (with_reducible repeat (first | refine zg ?_ _ | refine zi ?_ | refine zh ?_ _)); refine zB ?_ Jk.o _; (with_reducible repeat (first | refine zg ?_ _ | refine zi ?_ | refine zh ?_ _)); refine zB ?_ Jk.o _; (with_reducible repeat (first | refine zg ?_ _ | refine zi ?_ | refine zh ?_ _)); exact Ja.o))⟩; have n4_ : ze (Below w.heap.size w w75) := ⟨(by rw [hw]; exact (by repeat (first | (with_reducible first | exact HB.o | apply zl | apply zf | apply zk | refine zm ?_ Js.o | refine zm ?_ JB.o) | exact HB.o)))⟩; clear hw; clear Jl; clear Jy; clear Jj; clear Ja; clear HB; have Jl := n0_; have Jy := n1_; have Jj := n2_; have Ja := n3_; have HB := n4_; clear n0_ n1_ n2_ n3_ n4_))
                refine bodyPost_ret (yE rfl _ _ Jf 37 #[.int .i64 0, .int .i64 0, .int .i64 0, .int .u64 0, .int .i64 0, .int .i64 0, .int .i64 0, .int .i64 0, .int .i64 0, .int .i64 0] (0, 0) _ rfl (by (with_reducible repeat (first | refine zg ?_ _ | refine zi ?_ | refine zh ?_ _)); exact Jj.o) Tryz.underlying37 rfl (by kernel_rfl)) rfl ?_
                exact ⟨by first | rfl | (simp [zy, zx] <;> rfl) | (simp only [← JX]; first | rfl | (simp [zy, zx] <;> rfl)) | (simp [*, zy, zx] <;> rfl), by repeat (first | (with_reducible first | exact HB.o | apply zl | apply zf | apply zk | refine zm ?_ Js.o | refine zm ?_ JB.o) | exact HB.o)⟩
              ·rw [if_neg c60] at H
               have Jdi : (t218 == 0) = false := beq_eq_false_iff_ne.mpr c60
               have Jdh : (t218 != 0) = true := bne_iff_ne.mpr c60
               simp only [Option.some.injEq, Prod.mk.injEq] at H
               obtain ⟨rfl, rfl, rfl, rfl, rfl, rfl, rfl, rfl, rfl, rfl, rfl⟩ := H
               have hnb76 := Jk.o
               have hnc76 := Jm.o
               have JbE : wr.cell? ⟨Jb, 0, none⟩ = some (.int .i64 (rd Jd 0)) := (zb Ja.o 0).trans rfl
               have JbD : wr.cell? ⟨Jb, 1, none⟩ = some (.int .i64 (rd Jd 1)) := (zb Ja.o 1).trans rfl
               have JbC : wr.cell? ⟨Jb, 2, none⟩ = some (.int .i64 (rd Jd 2)) := (zb Ja.o 2).trans rfl
               have JbB : wr.cell? ⟨Jb, 3, none⟩ = some (.int .u64 (rd l0 1)) := (zb Ja.o 3).trans rfl
               have JbA : wr.cell? ⟨Jb, 4, none⟩ = some (.int .i64 Jc) := (zb Ja.o 4).trans rfl
               have Jbz : wr.cell? ⟨Jb, 5, none⟩ = some (.int .i64 Je) := (zb Ja.o 5).trans rfl
               have Jby : wr.cell? ⟨Jb, 6, none⟩ = some (.int .i64 Jg) := (zb Ja.o 6).trans rfl
               have Jbx : wr.cell? ⟨Jb, 7, none⟩ = some (.int .i64 Jh) := (zb Ja.o 7).trans rfl
               have Jbw : wr.cell? ⟨Jb, 8, none⟩ = some (.int .i64 Ji) := (zb Ja.o 8).trans rfl
               have Jbv : wr.cell? ⟨Jb, 9, none⟩ = some (.int .i64 (wrap64 ((rd Jd (Jt)) - 1))) := (zb Ja.o 9).trans rfl
               have Bc := za Ja.o 0
               have D7 := za Ja.o 1
               have D6 := za Ja.o 2
               have D5 := za Ja.o 3
               have DZ := za Ja.o 4
               have DY := za Ja.o 5
               have DW := za Ja.o 6
               have DV := za Ja.o 7
               have DU := za Ja.o 8
               have DT := za Ja.o 9
               go_wp2_with (first | ((with_reducible refine zN (f := 54) rfl ?_); refine yh (some 77) rfl rfl Tryz.func54 (by kernel_rfl) rfl #[.agg #[.int .i64 (rd Jd 0), .int .i64 (rd Jd 1), .int .i64 (rd Jd 2), .int .u64 (rd l0 1), .int .i64 Jc, .int .i64 Je, .int .i64 Jg, .int .i64 Jh, .int .i64 Ji, .int .i64 (wrap64 ((rd Jd (Jt)) - 1))]] rfl (by (try simp only [List.map_toArray, List.map_cons, List.map_nil]); first | done | (simp only [JX]; rfl) | rfl | (simp only [List.length_drop, List.length_take]; rfl)) ?_; (with_reducible refine (cards_Write.calls k2 (rd Jd 0) (rd Jd 1) (rd Jd 2) (rd l0 1) Jc Je Jg Jh Ji (wrap64 ((rd Jd (Jt)) - 1)) J3 t218 _ A59.o).mono ?_); rintro e w78 ⟨GQ, rfl, ho0, hb⟩; refine ⟨_, rfl, ?_⟩; have n0_ := ze.mk (Kd.zS (by (with_reducible repeat (first | apply Kd.zz | apply Kd.zA | apply Kd.zF)); exact Jl.o) hb); have n1_ := ze.mk (Kd.yf ho0 (zt (by repeat (first | (with_reducible first | exact HB.o | apply zl | apply zf | apply zk | refine zm ?_ Js.o | refine zm ?_ JB.o) | exact HB.o)))); have n2_ := ze.mk (zK (g := Jf) (o := .cells #[.int .i64 0, .int .i64 0, .int .i64 0, .int .u64 0, .int .i64 0, .int .i64 0, .int .i64 0, .int .i64 0, .int .i64 0, .int .i64 0] 37 (0, 0)) (by (with_reducible repeat (first | refine zg ?_ _ | refine zi ?_ | refine zh ?_ _)); exact Jj.o) hb); have n3_ := ze.mk (zK (g := Jb) (o := .cells #[.int .i64 (rd Jd 0), .int .i64 (rd Jd 1), .int .i64 (rd Jd 2), .int .u64 (rd l0 1), .int .i64 Jc, .int .i64 Je, .int .i64 Jg, .int .i64 Jh, .int .i64 Ji, .int .i64 (wrap64 ((rd Jd (Jt)) - 1))] 37 (0, 0)) (by (with_reducible repeat (first | refine zg ?_ _ | refine zi ?_ | refine zh ?_ _)); exact Ja.o) hb); have n4_ := ze.mk (zu (by repeat (first | (with_reducible first | exact HB.o | apply zl | apply zf | apply zk | refine zm ?_ Js.o | refine zm ?_ JB.o) | exact HB.o)) hb); clear Jl; clear Jj; clear Ja; clear HB; have Jl := n0_; have Jy := n1_; have Jj := n2_; have Ja := n3_; have HB := n4_; clear n0_ n1_ n2_ n3_ n4_; (try clear hb); (try clear hb2); (try clear hk); (try clear hi); (try clear ho0); have Jbu : w78.cell? ⟨Jf, 0, none⟩ = some (.int .i64 0) := (zb Jj.o 0).trans rfl; have Jbt : w78.cell? ⟨Jf, 1, none⟩ = some (.int .i64 0) := (zb Jj.o 1).trans rfl; have Jbs : w78.cell? ⟨Jf, 2, none⟩ = some (.int .i64 0) := (zb Jj.o 2).trans rfl; have Jbr : w78.cell? ⟨Jf, 3, none⟩ = some (.int .u64 0) := (zb Jj.o 3).trans rfl; have Jbq : w78.cell? ⟨Jf, 4, none⟩ = some (.int .i64 0) := (zb Jj.o 4).trans rfl; have Jbp : w78.cell? ⟨Jf, 5, none⟩ = some (.int .i64 0) := (zb Jj.o 5).trans rfl; have Jbo : w78.cell? ⟨Jf, 6, none⟩ = some (.int .i64 0) := (zb Jj.o 6).trans rfl; have Jbn : w78.cell? ⟨Jf, 7, none⟩ = some (.int .i64 0) := (zb Jj.o 7).trans rfl; have Jbm : w78.cell? ⟨Jf, 8, none⟩ = some (.int .i64 0) := (zb Jj.o 8).trans rfl; have Jbl : w78.cell? ⟨Jf, 9, none⟩ = some (.int .i64 0) := (zb Jj.o 9).trans rfl; have DR := za Jj.o 0; have DN := za Jj.o 1; have DL := za Jj.o 2; have DK := za Jj.o 3; have DJ := za Jj.o 4; have DI := za Jj.o 5; have DF := za Jj.o 6; have DD := za Jj.o 7; have DC := za Jj.o 8; have Dz := za Jj.o 9) | ((with_reducible refine zJ (t := 37) (p := 2) rfl ?_); refine zH (t := 37) (p := 2) (v := ?vo_w80) (w1 := ((((((((((w78.setCell ⟨Jf, 0, none⟩ (.int .i64 0)).setCell ⟨Jf, 1, none⟩ (.int .i64 0)).setCell ⟨Jf, 2, none⟩ (.int .i64 0)).setCell ⟨Jf, 3, none⟩ (.int .u64 0)).setCell ⟨Jf, 4, none⟩ (.int .i64 0)).setCell ⟨Jf, 5, none⟩ (.int .i64 0)).setCell ⟨Jf, 6, none⟩ (.int .i64 0)).setCell ⟨Jf, 7, none⟩ (.int .i64 0)).setCell ⟨Jf, 8, none⟩ (.int .i64 0)).setCell ⟨Jf, 9, none⟩ (.int .i64 0))) ?hg ?ho ?hn ?hr ?_; (case ho => rfl); (case hg => rfl); (case hn => rfl); (case hr => exact zM rfl rfl rfl (zP (P := Tryz.prog) (o := 0) (cur := #[.int .i64 0, .int .i64 0, .int .i64 0, .int .u64 0, .int .i64 0, .int .i64 0, .int .i64 0, .int .i64 0, .int .i64 0, .int .i64 0]) 37 (.agg #[.int .i64 0, .int .i64 0, .int .i64 0, .int .u64 0, .int .i64 0, .int .i64 0, .int .i64 0, .int .i64 0, .int .i64 0, .int .i64 0]) [.int .i64 0, .int .i64 0, .int .i64 0, .int .u64 0, .int .i64 0, .int .i64 0, .int .i64 0, .int .i64 0, .int .i64 0, .int .i64 0] (show _ = some (Obj.cells #[.int .i64 0, .int .i64 0, .int .i64 0, .int .u64 0, .int .i64 0, .int .i64 0, .int .i64 0, .int .i64 0, .int .i64 0, .int .i64 0] 37 (0, 0)) from (by (with_reducible repeat (first | refine zg ?_ _ | refine zi ?_ | refine zh ?_ _)); exact Jj.o)) rfl (by kernel_rfl) (show 10 ≤ 10 by decide) (by intro q_ hq_; simp only [List.mem_cons, List.not_mem_nil, or_false] at hq_; rcases hq_ with rfl | rfl | rfl | rfl | rfl | rfl | rfl | rfl | rfl | rfl <;> rfl))); intro w80 hw; have n0_ : ze (Kd.R (Kd.int .i64) 3 w80 w.heap.size (fun _ => True) (.slice (some JA) Jd.length Gq) Jd) := ⟨(by rw [hw]; exact (by (with_reducible repeat (first | apply Kd.zz | apply Kd.zA | apply Kd.zF)); exact Kd.zT (Kd.R_far (p := ⟨Jf, 9, none⟩) (Kd.R_far (p := ⟨Jf, 8, none⟩) (Kd.R_far (p := ⟨Jf, 7, none⟩) (Kd.R_far (p := ⟨Jf, 6, none⟩) (Kd.R_far (p := ⟨Jf, 5, none⟩) (Kd.R_far (p := ⟨Jf, 4, none⟩) (Kd.R_far (p := ⟨Jf, 3, none⟩) (Kd.R_far (p := ⟨Jf, 2, none⟩) (Kd.R_far (p := ⟨Jf, 1, none⟩) (Kd.R_far (p := ⟨Jf, 0, none⟩) (Kd.yD Jl.o Jj.o (by decide)) (fun _ hk => hk.2) (.int .i64 0)) (fun _ hk => hk.2) (.int .i64 0)) (fun _ hk => hk.2) (.int .i64 0)) (fun _ hk => hk.2) (.int .u64 0)) (fun _ hk => hk.2) (.int .i64 0)) (fun _ hk => hk.2) (.int .i64 0)) (fun _ hk => hk.2) (.int .i64 0)) (fun _ hk => hk.2) (.int .i64 0)) (fun _ hk => hk.2) (.int .i64 0)) (fun _ hk => hk.2) (.int .i64 0)) (fun _ hk => trivial)))⟩; have n1_ : ze (Kd.R (Kd.int .u64) 34 w80 w.heap.size (fun _ => True) GQ J3) := ⟨(by rw [hw]; exact (by (with_reducible repeat (first | apply Kd.zz | apply Kd.zA | apply Kd.zF)); exact Kd.zT (Kd.R_far (p := ⟨Jf, 9, none⟩) (Kd.R_far (p := ⟨Jf, 8, none⟩) (Kd.R_far (p := ⟨Jf, 7, none⟩) (Kd.R_far (p := ⟨Jf, 6, none⟩) (Kd.R_far (p := ⟨Jf, 5, none⟩) (Kd.R_far (p := ⟨Jf, 4, none⟩) (Kd.R_far (p := ⟨Jf, 3, none⟩) (Kd.R_far (p := ⟨Jf, 2, none⟩) (Kd.R_far (p := ⟨Jf, 1, none⟩) (Kd.R_far (p := ⟨Jf, 0, none⟩) (Kd.yD Jy.o Jj.o (by decide)) (fun _ hk => hk.2) (.int .i64 0)) (fun _ hk => hk.2) (.int .i64 0)) (fun _ hk => hk.2) (.int .i64 0)) (fun _ hk => hk.2) (.int .u64 0)) (fun _ hk => hk.2) (.int .i64 0)) (fun _ hk => hk.2) (.int .i64 0)) (fun _ hk => hk.2) (.int .i64 0)) (fun _ hk => hk.2) (.int .i64 0)) (fun _ hk => hk.2) (.int .i64 0)) (fun _ hk => hk.2) (.int .i64 0)) (fun _ hk => trivial)))⟩; have n2_ : ze (w80.heap[Jf]? = some (.cells #[.int .i64 0, .int .i64 0, .int .i64 0, .int .u64 0, .int .i64 0, .int .i64 0, .int .i64 0, .int .i64 0, .int .i64 0, .int .i64 0] 37 (0, 0))) := ⟨(by rw [hw]; exact (by (with_reducible repeat (first | refine zg ?_ _ | refine zi ?_ | refine zh ?_ _)); refine zq (cs := #[.int .i64 0, .int .i64 0, .int .i64 0, .int .u64 0, .int .i64 0, .int .i64 0, .int .i64 0, .int .i64 0, .int .i64 0, .int .i64 0]) ?_ 9 _ rfl; (with_reducible repeat (first | refine zg ?_ _ | refine zi ?_ | refine zh ?_ _)); refine zq (cs := #[.int .i64 0, .int .i64 0, .int .i64 0, .int .u64 0, .int .i64 0, .int .i64 0, .int .i64 0, .int .i64 0, .int .i64 0, .int .i64 0]) ?_ 8 _ rfl; (with_reducible repeat (first | refine zg ?_ _ | refine zi ?_ | refine zh ?_ _)); refine zq (cs := #[.int .i64 0, .int .i64 0, .int .i64 0, .int .u64 0, .int .i64 0, .int .i64 0, .int .i64 0, .int .i64 0, .int .i64 0, .int .i64 0]) ?_ 7 _ rfl; (with_reducible repeat (first | refine zg ?_ _ | refine zi ?_ | refine zh ?_ _)); refine zq (cs := #[.int .i64 0, .int .i64 0, .int .i64 0, .int .u64 0, .int .i64 0, .int .i64 0, .int .i64 0, .int .i64 0, .int .i64 0, .int .i64 0]) ?_ 6 _ rfl; (with_reducible repeat (first | refine zg ?_ _ | refine zi ?_ | refine zh ?_ _)); refine zq (cs := #[.int .i64 0, .int .i64 0, .int .i64 0, .int .u64 0, .int .i64 0, .int .i64 0, .int .i64 0, .int .i64 0, .int .i64 0, .int .i64 0]) ?_ 5 _ rfl; (with_reducible repeat (first | refine zg ?_ _ | refine zi ?_ | refine zh ?_ _)); refine zq (cs := #[.int .i64 0, .int .i64 0, .int .i64 0, .int .u64 0, .int .i64 0, .int .i64 0, .int .i64 0, .int .i64 0, .int .i64 0, .int .i64 0]) ?_ 4 _ rfl; (with_reducible repeat (first | refine zg ?_ _ | refine zi ?_ | refine zh ?_ _)); refine zq (cs := #[.int .i64 0, .int .i64 0, .int .i64 0, .int .u64 0, .int .i64 0, .int .i64 0, .int .i64 0, .int .i64 0, .int .i64 0, .int .i64 0]) ?_ 3 _ rfl; (with_reducible repeat (first | refine zg ?_ _ | refine zi ?_ | refine zh ?_ _)); refine zq (cs := #[.int .i64 0, .int .i64 0, .int .i64 0, .int .u64 0, .int .i64 0, .int .i64 0, .int .i64 0, .int .i64 0, .int .i64 0, .int .i64 0]) ?_ 2 _ rfl; (with_reducible repeat (first | refine zg ?_ _ | refine zi ?_ | refine zh ?_ _)); refine zq (cs := #[.int .i64 0, .int .i64 0, .int .i64 0, .int .u64 0, .int .i64 0, .int .i64 0, .int .i64 0, .int .i64 0, .int .i64 0, .int .i64 0]) ?_ 1 _ rfl; (with_reducible repeat (first | refine zg ?_ _ | refine zi ?_ | refine zh ?_ _)); refine zq (cs := #[.int .i64 0, .int .i64 0, .int .i64 0, .int .u64 0, .int .i64 0, .int .i64 0, .int .i64 0, .int .i64 0, .int .i64 0, .int .i64 0]) ?_ 0 _ rfl; (with_reducible repeat (first | refine zg ?_ _ | refine zi ?_ | refine zh ?_ _)); exact Jj.o))⟩; have n3_ : ze (w80.heap[Jb]? = some (.cells #[.int .i64 (rd Jd 0), .int .i64 (rd Jd 1), .int .i64 (rd Jd 2), .int .u64 (rd l0 1), .int .i64 Jc, .int .i64 Je, .int .i64 Jg, .int .i64 Jh, .int .i64 Ji, .int .i64 (wrap64 ((rd Jd (Jt)) - 1))] 37 (0, 0))) := ⟨(by rw [hw]; exact (by (with_reducible repeat (first | refine zg ?_ _ | refine zi ?_ | refine zh ?_ _)); refine zB ?_ Jk.o _; (with_reducible repeat (first | refine zg ?_ _ | refine zi ?_ | refine zh ?_ _)); refine zB ?_ Jk.o _; (with_reducible repeat (first | refine zg ?_ _ | refine zi ?_ | refine zh ?_ _)); refine zB ?_ Jk.o _; (with_reducible repeat (first | refine zg ?_ _ | refine zi ?_ | refine zh ?_ _)); refine zB ?_ Jk.o _; (with_reducible repeat (first | refine zg ?_ _ | refine zi ?_ | refine zh ?_ _)); refine zB ?_ Jk.o _; (with_reducible repeat (first | refine zg ?_ _ | refine zi ?_ | refine zh ?_ _)); refine zB ?_ Jk.o _; (with_reducible repeat (first | refine zg ?_ _ | refine zi ?_ | refine zh ?_ _)); refine zB ?_ Jk.o _; (with_reducible repeat (first | refine zg ?_ _ | refine zi ?_ | refine zh ?_ _)); refine zB ?_ Jk.o _; (with_reducible repeat (first | refine zg ?_ _ | refine zi ?_ | refine zh ?_ _)); refine zB ?_ Jk.o _; (with_reducible repeat (first | refine zg ?_ _ | refine zi ?_ | refine zh ?_ _)); refine zB ?_ Jk.o _; (with_reducible repeat (first | refine zg ?_ _ | refine zi ?_ | refine zh ?_ _)); exact Ja.o))⟩; have n4_ : ze (Below w.heap.size w w80) := ⟨(by rw [hw]; exact (by repeat (first | (with_reducible first | exact HB.o | apply zl | apply zf | apply zk | refine zm ?_ Js.o | refine zm ?_ JB.o) | exact HB.o)))⟩; clear hw; clear Jl; clear Jy; clear Jj; clear Ja; clear HB; have Jl := n0_; have Jy := n1_; have Jj := n2_; have Ja := n3_; have HB := n4_; clear n0_ n1_ n2_ n3_ n4_))
               refine bodyPost_ret (yE rfl _ _ Jf 37 #[.int .i64 0, .int .i64 0, .int .i64 0, .int .u64 0, .int .i64 0, .int .i64 0, .int .i64 0, .int .i64 0, .int .i64 0, .int .i64 0] (0, 0) _ rfl (by (with_reducible repeat (first | refine zg ?_ _ | refine zi ?_ | refine zh ?_ _)); exact Jj.o) Tryz.underlying37 rfl (by kernel_rfl)) rfl ?_
               exact ⟨by first | rfl | (simp [zy, zx] <;> rfl) | (simp only [← JX]; first | rfl | (simp [zy, zx] <;> rfl)) | (simp [*, zy, zx] <;> rfl), by repeat (first | (with_reducible first | exact HB.o | apply zl | apply zf | apply zk | refine zm ?_ Js.o | refine zm ?_ JB.o) | exact HB.o)⟩
          ·rw [if_neg c26] at H
           exact absurd H (by simp)
         ·rw [if_neg c25] at H
          exact absurd H (by simp)
        ·rw [if_neg c23] at H
         exact absurd H (by simp)
       ·rw [if_neg c22] at H
        exact absurd H (by simp)
      ·rw [if_neg c21] at H
       exact absurd H (by simp)
     ·rw [if_neg c20] at H
      exact absurd H (by simp)
 ·rw [if_neg c2] at H
  have Jdl : ((l0.length : Int) == 8) = false := beq_eq_false_iff_ne.mpr c2
  have Jdk : ((l0.length : Int) != 8) = true := bne_iff_ne.mpr c2
  simp only [Option.some.injEq, Prod.mk.injEq] at H
  obtain ⟨rfl, rfl, rfl, rfl, rfl, rfl, rfl, rfl, rfl, rfl, rfl⟩ := H
  go_enter Tryz.func51, Tryz.ntmps51
  go_wp2_with (first | ((with_reducible refine zD (N := 2) rfl ?_); refine zC ?hg (N := 2) ?hd (cs := #[.int .i64 0, .int .i64 0, .int .i64 0, .int .u64 0, .int .i64 0, .int .i64 0, .int .i64 0, .int .i64 0, .int .i64 0, .int .i64 0]) (t := 37) ?hr ?_; (case hd => rfl); (case hg => rfl); (case hr => first | (go_simp; done) | (go_simp; rfl)); intro Jf hg w81 hbox hb; have n0_ := ze.mk (zu (by repeat (first | (with_reducible first | exact HB.o | apply zl | apply zf | apply zk) | exact HB.o)) hb); have n1_ := ze.mk (hbox); have n2_ := ze.mk ((by rw [hg]; exact (zt (by repeat (first | (with_reducible first | exact HB.o | apply zl | apply zf | apply zk) | exact HB.o))) : w.heap.size ≤ Jf)); have n3_ := ze.mk ((by rw [hg]; exact (zt (by repeat (first | (with_reducible first | exact HB.o | apply zl | apply zf | apply zk) | exact HB.o))) : w.heap.size ≤ Jf)); clear HB; have HB := n0_; have Jj := n1_; have JdH := n2_; have Js := n3_; clear n0_ n1_ n2_ n3_; clear hb hbox hg; have Jbk : w81.cell? ⟨Jf, 0, none⟩ = some (.int .i64 0) := (zb Jj.o 0).trans rfl; have Jbj : w81.cell? ⟨Jf, 1, none⟩ = some (.int .i64 0) := (zb Jj.o 1).trans rfl; have Jbi : w81.cell? ⟨Jf, 2, none⟩ = some (.int .i64 0) := (zb Jj.o 2).trans rfl; have Jbh : w81.cell? ⟨Jf, 3, none⟩ = some (.int .u64 0) := (zb Jj.o 3).trans rfl; have Jbg : w81.cell? ⟨Jf, 4, none⟩ = some (.int .i64 0) := (zb Jj.o 4).trans rfl; have Jbf : w81.cell? ⟨Jf, 5, none⟩ = some (.int .i64 0) := (zb Jj.o 5).trans rfl; have Jbe : w81.cell? ⟨Jf, 6, none⟩ = some (.int .i64 0) := (zb Jj.o 6).trans rfl; have Jbd : w81.cell? ⟨Jf, 7, none⟩ = some (.int .i64 0) := (zb Jj.o 7).trans rfl; have Jbc : w81.cell? ⟨Jf, 8, none⟩ = some (.int .i64 0) := (zb Jj.o 8).trans rfl; have Jbb : w81.cell? ⟨Jf, 9, none⟩ = some (.int .i64 0) := (zb Jj.o 9).trans rfl; have Dy := za Jj.o 0; have Dx := za Jj.o 1; have Dw := za Jj.o 2; have Dv := za Jj.o 3; have Du := za Jj.o 4; have Dt := za Jj.o 5; have Dr := za Jj.o 6; have Dq := za Jj.o 7; have Dp := za Jj.o 8; have Dn := za Jj.o 9) | ((with_reducible refine zJ (t := 37) (p := 2) rfl ?_); refine zH (t := 37) (p := 2) (v := ?vo_w83) (w1 := ((((((((((w81.setCell ⟨Jf, 0, none⟩ (.int .i64 0)).setCell ⟨Jf, 1, none⟩ (.int .i64 0)).setCell ⟨Jf, 2, none⟩ (.int .i64 0)).setCell ⟨Jf, 3, none⟩ (.int .u64 0)).setCell ⟨Jf, 4, none⟩ (.int .i64 0)).setCell ⟨Jf, 5, none⟩ (.int .i64 0)).setCell ⟨Jf, 6, none⟩ (.int .i64 0)).setCell ⟨Jf, 7, none⟩ (.int .i64 0)).setCell ⟨Jf, 8, none⟩ (.int .i64 0)).setCell ⟨Jf, 9, none⟩ (.int .i64 0))) ?hg ?ho ?hn ?hr ?_; (case ho => rfl); (case hg => rfl); (case hn => rfl); (case hr => exact zM rfl rfl rfl (zP (P := Tryz.prog) (o := 0) (cur := #[.int .i64 0, .int .i64 0, .int .i64 0, .int .u64 0, .int .i64 0, .int .i64 0, .int .i64 0, .int .i64 0, .int .i64 0, .int .i64 0]) 37 (.agg #[.int .i64 0, .int .i64 0, .int .i64 0, .int .u64 0, .int .i64 0, .int .i64 0, .int .i64 0, .int .i64 0, .int .i64 0, .int .i64 0]) [.int .i64 0, .int .i64 0, .int .i64 0, .int .u64 0, .int .i64 0, .int .i64 0, .int .i64 0, .int .i64 0, .int .i64 0, .int .i64 0] (show _ = some (Obj.cells #[.int .i64 0, .int .i64 0, .int .i64 0, .int .u64 0, .int .i64 0, .int .i64 0, .int .i64 0, .int .i64 0, .int .i64 0, .int .i64 0] 37 (0, 0)) from (by (with_reducible repeat (first | refine zg ?_ _ | refine zi ?_ | refine zh ?_ _)); exact Jj.o)) rfl (by kernel_rfl) (show 10 ≤ 10 by decide) (by intro q_ hq_; simp only [List.mem_cons, List.not_mem_nil, or_false] at hq_; rcases hq_ with rfl | rfl | rfl | rfl | rfl | rfl | rfl | rfl | rfl | rfl <;> rfl))); intro w83 hw; have n0_ : ze (w83.heap[Jf]? = some (.cells #[.int .i64 0, .int .i64 0, .int .i64 0, .int .u64 0, .int .i64 0, .int .i64 0, .int .i64 0, .int .i64 0, .int .i64 0, .int .i64 0] 37 (0, 0))) := ⟨(by rw [hw]; exact (by (with_reducible repeat (first | refine zg ?_ _ | refine zi ?_ | refine zh ?_ _)); refine zq (cs := #[.int .i64 0, .int .i64 0, .int .i64 0, .int .u64 0, .int .i64 0, .int .i64 0, .int .i64 0, .int .i64 0, .int .i64 0, .int .i64 0]) ?_ 9 _ rfl; (with_reducible repeat (first | refine zg ?_ _ | refine zi ?_ | refine zh ?_ _)); refine zq (cs := #[.int .i64 0, .int .i64 0, .int .i64 0, .int .u64 0, .int .i64 0, .int .i64 0, .int .i64 0, .int .i64 0, .int .i64 0, .int .i64 0]) ?_ 8 _ rfl; (with_reducible repeat (first | refine zg ?_ _ | refine zi ?_ | refine zh ?_ _)); refine zq (cs := #[.int .i64 0, .int .i64 0, .int .i64 0, .int .u64 0, .int .i64 0, .int .i64 0, .int .i64 0, .int .i64 0, .int .i64 0, .int .i64 0]) ?_ 7 _ rfl; (with_reducible repeat (first | refine zg ?_ _ | refine zi ?_ | refine zh ?_ _)); refine zq (cs := #[.int .i64 0, .int .i64 0, .int .i64 0, .int .u64 0, .int .i64 0, .int .i64 0, .int .i64 0, .int .i64 0, .int .i64 0, .int .i64 0]) ?_ 6 _ rfl; (with_reducible repeat (first | refine zg ?_ _ | refine zi ?_ | refine zh ?_ _)); refine zq (cs := #[.int .i64 0, .int .i64 0, .int .i64 0, .int .u64 0, .int .i64 0, .int .i64 0, .int .i64 0, .int .i64 0, .int .i64 0, .int .i64 0]) ?_ 5 _ rfl; (with_reducible repeat (first | refine zg ?_ _ | refine zi ?_ | refine zh ?_ _)); refine zq (cs := #[.int .i64 0, .int .i64 0, .int .i64 0, .int .u64 0, .int .i64 0, .int .i64 0, .int .i64 0, .int .i64 0, .int .i64 0, .int .i64 0]) ?_ 4 _ rfl; (with_reducible repeat (first | refine zg ?_ _ | refine zi ?_ | refine zh ?_ _)); refine zq (cs := #[.int .i64 0, .int .i64 0, .int .i64 0, .int .u64 0, .int .i64 0, .int .i64 0, .int .i64 0, .int .i64 0, .int .i64 0, .int .i64 0]) ?_ 3 _ rfl; (with_reducible repeat (first | refine zg ?_ _ | refine zi ?_ | refine zh ?_ _)); refine zq (cs := #[.int .i64 0, .int .i64 0, .int .i64 0, .int .u64 0, .int .i64 0, .int .i64 0, .int .i64 0, .int .i64 0, .int .i64 0, .int .i64 0]) ?_ 2 _ rfl; (with_reducible repeat (first | refine zg ?_ _ | refine zi ?_ | refine zh ?_ _)); refine zq (cs := #[.int .i64 0, .int .i64 0, .int .i64 0, .int .u64 0, .int .i64 0, .int .i64 0, .int .i64 0, .int .i64 0, .int .i64 0, .int .i64 0]) ?_ 1 _ rfl; (with_reducible repeat (first | refine zg ?_ _ | refine zi ?_ | refine zh ?_ _)); refine zq (cs := #[.int .i64 0, .int .i64 0, .int .i64 0, .int .u64 0, .int .i64 0, .int .i64 0, .int .i64 0, .int .i64 0, .int .i64 0, .int .i64 0]) ?_ 0 _ rfl; (with_reducible repeat (first | refine zg ?_ _ | refine zi ?_ | refine zh ?_ _)); exact Jj.o))⟩; have n1_ : ze (Below w.heap.size w w83) := ⟨(by rw [hw]; exact (by repeat (first | (with_reducible first | exact HB.o | apply zl | apply zf | apply zk | refine zm ?_ Js.o) | exact HB.o)))⟩; clear hw; clear Jj; clear HB; have Jj := n0_; have HB := n1_; clear n0_ n1_))
  refine bodyPost_ret (yE rfl _ _ Jf 37 #[.int .i64 0, .int .i64 0, .int .i64 0, .int .u64 0, .int .i64 0, .int .i64 0, .int .i64 0, .int .i64 0, .int .i64 0, .int .i64 0] (0, 0) _ rfl (by (with_reducible repeat (first | refine zg ?_ _ | refine zi ?_ | refine zh ?_ _)); exact Jj.o) Tryz.underlying37 rfl (by kernel_rfl)) rfl ?_
  exact ⟨by first | rfl | (simp [zy, zx] <;> rfl) | (simp [*, zy, zx] <;> rfl), by repeat (first | (with_reducible first | exact HB.o | apply zl | apply zf | apply zk | refine zm ?_ Js.o) | exact HB.o)⟩

end Go.Proofs.YtkbhilhefnahpaaGreat.Print
