import Derived.Test.YtkbhilhefnahpaaPrint0
import Derived.Test.YtkbhilhefnahpaaPrint2
namespace Go.Proofs.Ytkbhilhefnahpaa.Print
open Go.RowKit Go.Proofs.YtkbhilhefnahpaaW.PrintWords Go.Proofs.YtkbhilhefnahpaaW.PrintLast Go.Proofs.YtkbhilhefnahpaaW.PrintMore
attribute [local go_sem] Zd Zc ZF ZE yV yU Zk Zj   -- for this text's walks alone
set_option linter.unusedVariables false
set_option linter.unusedSimpArgs false

/-! ### plan_Block: function 57 -/
def plan_Block.f (k : Nat) (a0 : Int) : Option (Int × Int) := (plan_first.f k 5 a0).bind fun Jh => (some (Jh.1, Jh.2))
set_option maxHeartbeats 8000000 in
set_option maxRecDepth 100000 in
theorem plan_Block.calls (k : Nat) (a0 : Int) (r1 : Int) (r2 : Int) (w : World) (h : plan_Block.f k a0 = some (r1, r2)) :
  Calls Try.prog 57 #[.int .i64 a0] w fun e w' => e = .returned (.tuple #[.int .i64 r1, .int .i64 r2]) ∧ Below w.heap.size w w' := by
 have HB := ze.mk (Below.refl w.heap.size w)
 have H : ((plan_first.f k 5 a0).bind fun Jh => (some (Jh.1, Jh.2))) = some (r1, r2) := h
 clear h
 replace H := Option.bind_eq_some_iff.mp H
 obtain ⟨⟨t219, t220⟩, A20, H⟩ := H
 replace H : (some (t219, t220)) = some (r1, r2) := H
 have A2 := ze.mk A20
 clear A20
 simp only [Option.some.injEq, Prod.mk.injEq] at H
 obtain ⟨rfl, rfl⟩ := H
 go_enter Try.func57, Try.ntmps57
 go_wp2_with (first | ((with_reducible refine zM (f := 63) rfl ?_); refine yl (some 5) rfl rfl Try.func63 (by kernel_rfl) rfl #[.int .i64 5, .int .i64 a0] rfl (by (try simp only [List.map_toArray, List.map_cons, List.map_nil]); first | done | rfl | (simp only [List.length_drop, List.length_take]; rfl)) ?_; (with_reducible refine (plan_first.calls k 5 a0 t219 t220 _ A2.o).mono ?_); rintro e w3 ⟨rfl, hb⟩; refine ⟨_, rfl, ?_⟩; have n0_ := ze.mk (zu (by repeat (first | (with_reducible first | exact HB.o | apply zl | apply zf | apply zk) | exact HB.o)) hb); clear HB; have HB := n0_; clear n0_; (try clear hb); (try clear hb2); (try clear hk); (try clear hi)))
 go_ret2
 exact ⟨by first | rfl | (simp [zy, zx] <;> rfl) | (simp [*, zy, zx] <;> rfl), by repeat (first | (with_reducible first | exact HB.o | apply zl | apply zf | apply zk) | exact HB.o)⟩

/-! ### escritoirelaw08_Op_kind: function 39 -/
def escritoirelaw08_Op_kind.f (Ju : Int) (J2 : Int) (JZ : Int) (JY : Int) (JX : Int) (JW : Int) (JV : Int) (JU : Int) (JS : Int) (JR : Int) (Jk : Int) (Jj : Int) (Ji : Int) (Jf : List Int) (Je : List Int) : Option (Int) := some (wrap64 (Int.tmod (IntKind.u64.wrap (Ju)) 9))
set_option maxHeartbeats 8000000 in
set_option maxRecDepth 100000 in
theorem escritoirelaw08_Op_kind.calls (Ju : Int) (J2 : Int) (JZ : Int) (JY : Int) (JX : Int) (JW : Int) (JV : Int) (JU : Int) (JS : Int) (JR : Int) (Jk : Int) (Jj : Int) (Ji : Int) (Jo : Option Addr) (Jm : Nat) (Jf : List Int) (Jn : Option Addr) (Jl : Nat) (Je : List Int) (r : Int) (w : World) (Jq : Kd.C (Kd.int .u64) w Jo Jf.length Jf) (Js : Jf.length ≤ Jm) (Jp : Kd.C (Kd.int .i64) w Jn Je.length Je) (Jr : Je.length ≤ Jl) (h : escritoirelaw08_Op_kind.f Ju J2 JZ JY JX JW JV JU JS JR Jk Jj Ji Jf Je = some r) :
  Calls Try.prog 39 #[.agg #[.int .i64 Ju, .int .i64 J2, .int .u64 JZ, .int .i64 JY, .int .i64 JX, .int .i64 JW, .int .u64 JV, .int .i64 JU, .int .i64 JS, .int .i64 JR, .int .i64 Jk, .int .i64 Jj, .int .i64 Ji, .slice Jo Jf.length Jm, .slice Jn Je.length Jl]] w fun e w' => e = .returned (.int .i64 r) ∧ Below w.heap.size w w' := by
 have hu47 := Try.underlying47
 have HR0_13 := ze.mk Jq
 have HC0_13 := ze.mk Js
 clear Jq Js
 have HR0_14 := ze.mk Jp
 have HC0_14 := ze.mk Jr
 clear Jp Jr
 have HB := ze.mk (Below.refl w.heap.size w)
 have H : (some (wrap64 (Int.tmod (IntKind.u64.wrap (Ju)) 9))) = some r := h
 clear h
 obtain rfl := Option.some.inj H
 go_enter Try.func39, Try.ntmps39
 go_wp2_with (first | ((with_reducible refine zC (N := 1) rfl ?_); refine zD ?hg (N := 1) ?hd (cs := #[.int .i64 Ju, .int .i64 J2, .int .u64 JZ, .int .i64 JY, .int .i64 JX, .int .i64 JW, .int .u64 JV, .int .i64 JU, .int .i64 JS, .int .i64 JR, .int .i64 Jk, .int .i64 Jj, .int .i64 Ji, .slice Jo Jf.length Jm, .slice Jn Je.length Jl]) (t := 47) ?hr ?_; (case hd => rfl); (case hg => rfl); (case hr => first | (go_simp; done) | (go_simp; rfl)); intro Jd hg w2 hbox hb; have n0_ := ze.mk (zu (by repeat (first | (with_reducible first | exact HB.o | apply zl | apply zf | apply zk) | exact HB.o)) hb); have n1_ := ze.mk (hbox); have n2_ := ze.mk ((by rw [hg]; exact (zt (by repeat (first | (with_reducible first | exact HB.o | apply zl | apply zf | apply zk) | exact HB.o))) : w.heap.size ≤ Jd)); have n3_ := ze.mk ((by rw [hg]; exact (zt (by repeat (first | (with_reducible first | exact HB.o | apply zl | apply zf | apply zk) | exact HB.o))) : w.heap.size ≤ Jd)); clear HB; have HB := n0_; have Ja := n1_; have GW221 := n2_; have Gh := n3_; clear n0_ n1_ n2_ n3_; clear hb hbox hg; have JQ : w2.cell? ⟨Jd, 0, none⟩ = some (.int .i64 Ju) := (zb Ja.o 0).trans rfl; have JP : w2.cell? ⟨Jd, 1, none⟩ = some (.int .i64 J2) := (zb Ja.o 1).trans rfl; have JO : w2.cell? ⟨Jd, 2, none⟩ = some (.int .u64 JZ) := (zb Ja.o 2).trans rfl; have JN : w2.cell? ⟨Jd, 3, none⟩ = some (.int .i64 JY) := (zb Ja.o 3).trans rfl; have JL : w2.cell? ⟨Jd, 4, none⟩ = some (.int .i64 JX) := (zb Ja.o 4).trans rfl; have JK : w2.cell? ⟨Jd, 5, none⟩ = some (.int .i64 JW) := (zb Ja.o 5).trans rfl; have JJ : w2.cell? ⟨Jd, 6, none⟩ = some (.int .u64 JV) := (zb Ja.o 6).trans rfl; have JI : w2.cell? ⟨Jd, 7, none⟩ = some (.int .i64 JU) := (zb Ja.o 7).trans rfl; have JH : w2.cell? ⟨Jd, 8, none⟩ = some (.int .i64 JS) := (zb Ja.o 8).trans rfl; have JG : w2.cell? ⟨Jd, 9, none⟩ = some (.int .i64 JR) := (zb Ja.o 9).trans rfl; have Gg : w2.cell? ⟨Jd, 10, none⟩ = some (.int .i64 Jk) := (zb Ja.o 10).trans rfl; have Gf : w2.cell? ⟨Jd, 11, none⟩ = some (.int .i64 Jj) := (zb Ja.o 11).trans rfl; have Gd : w2.cell? ⟨Jd, 12, none⟩ = some (.int .i64 Ji) := (zb Ja.o 12).trans rfl; have Gc : w2.cell? ⟨Jd, 13, none⟩ = some (.slice Jo Jf.length Jm) := (zb Ja.o 13).trans rfl; have Gb : w2.cell? ⟨Jd, 14, none⟩ = some (.slice Jn Je.length Jl) := (zb Ja.o 14).trans rfl; have JF := za Ja.o 0; have JE := za Ja.o 1; have JD := za Ja.o 2; have JC := za Ja.o 3; have JB := za Ja.o 4; have JA := za Ja.o 5; have Jz := za Ja.o 6; have Jy := za Ja.o 7; have Jw := za Ja.o 8; have Jv := za Ja.o 9; have Ga := za Ja.o 10; have J9 := za Ja.o 11; have J8 := za Ja.o 12; have J7 := za Ja.o 13; have J6 := za Ja.o 14))
 go_ret
 exact ⟨by first | rfl | (simp [zy, zx] <;> rfl) | (simp [*, zy, zx] <;> rfl), by repeat (first | (with_reducible first | exact HB.o | apply zl | apply zf | apply zk | refine zm ?_ Gh.o) | exact HB.o)⟩

/-! ### escritoireref05_What: function 78 -/
def escritoireref05_What.j0 : Nat → Int → Bool → Option (Int × Int)
 | 0, _, _ => none
 | k + 1, x0, x9 => if x9 = true then (some (0, 0)) else (if x0 < 8 then (some (1, 0)) else (if x0 < 200 then (some (2, wrap64 (Int.tdiv (wrap64 (x0 - 8)) 8))) else (if x0 < 296 then (some (3, wrap64 (x0 - 200))) else (if x0 < 1288 then (some (4, wrap64 (Int.tdiv (wrap64 (x0 - 296)) 248))) else (some (5, wrap64 (Int.tdiv (wrap64 (x0 - 1288)) 16)))))))
def escritoireref05_What.f (k : Nat) (a0 : Int) : Option (Int × Int) := if a0 < 0 then (escritoireref05_What.j0 k a0 true) else (escritoireref05_What.j0 k a0 (decide (a0 ≥ 2824)))
set_option maxHeartbeats 8000000 in
set_option maxRecDepth 100000 in
theorem escritoireref05_What.calls (k : Nat) (a0 : Int) (r1 : Int) (r2 : Int) (w : World) (h : escritoireref05_What.f k a0 = some (r1, r2)) :
  Calls Try.prog 78 #[.int .i64 a0] w fun e w' => e = .returned (.tuple #[.int .i64 r1, .int .i64 r2]) ∧ zN w w' := by
 have H : (if a0 < 0 then (escritoireref05_What.j0 k a0 true) else (escritoireref05_What.j0 k a0 (decide (a0 ≥ 2824)))) = some (r1, r2) := h
 clear h
 have HC2 := ze.mk H
 clear H
 go_enter Try.func78, Try.ntmps78
 go_upto_region 1 with (fail)
 go_cut [9] (fun v9 wc => ∃ (kq : Nat) (J4 : Bool), v9 = .bool J4 ∧ ze (escritoireref05_What.j0 kq a0 J4 = some (r1, r2)) ∧ ze (kq ≤ k) ∧ zN w wc)
 case first =>
  have H := HC2.o
  clear HC2
  by_cases c3 : a0 < 0
  ·rw [if_pos c3] at H
   have Jt : decide (a0 < 0) = true := decide_eq_true c3
   clear c3
   (first | rw [Jt] | (simp only [i64_w, i32_w]; rw [Jt]) | skip)
   have H' := ze.mk H
   clear H
   go_wp2
   go_meet
   case rel => exact ⟨_, (true), (by first | rfl | (simp; done) | (simp [*]; done) | kernel_rfl), H', ⟨by first | omega | exact Nat.le_refl _⟩, by repeat (first | exact zN.refl _ | apply zN.step)⟩
  ·rw [if_neg c3] at H
   have Jt : decide (a0 < 0) = false := decide_eq_false c3
   clear c3
   (first | rw [Jt] | (simp only [i64_w, i32_w]; rw [Jt]) | skip)
   have H' := ze.mk H
   clear H
   go_wp2
   go_meet
   case rel => exact ⟨_, (decide (a0 ≥ 2824)), (by first | rfl | (simp; done) | (simp [*]; done) | kernel_rfl), H', ⟨by first | omega | exact Nat.le_refl _⟩, by repeat (first | exact zN.refl _ | apply zN.step)⟩
 case rest =>
  clear HC2
  try clear p2
  try clear c3
  try clear Jt
  obtain ⟨kq, J4, rfl, HA, HJ1, ⟨mc1, rfl⟩⟩ := hcut
  cases kq with
  | zero => exact absurd HA.o (by simp [escritoireref05_What.j0])
  | succ kj1 =>
   have H := HA.o
   clear HA
   simp only [escritoireref05_What.j0] at H
   by_cases c4 : J4 = true
   ·subst c4
    have H1 : (some (0, 0)) = some (r1, r2) := by rw [if_pos rfl] at H; exact H
    clear H
    have H := H1
    clear H1
    simp only [Option.some.injEq, Prod.mk.injEq] at H
    obtain ⟨rfl, rfl⟩ := H
    go_wp2
    go_ret2
    exact ⟨by first | rfl | (simp; done) | (simp [*]; done), by repeat (first | exact zN.refl _ | apply zN.step)⟩
   ·replace c4 := Bool.eq_false_iff.mpr c4
    subst c4
    have H1 : (if a0 < 8 then (some (1, 0)) else (if a0 < 200 then (some (2, wrap64 (Int.tdiv (wrap64 (a0 - 8)) 8))) else (if a0 < 296 then (some (3, wrap64 (a0 - 200))) else (if a0 < 1288 then (some (4, wrap64 (Int.tdiv (wrap64 (a0 - 296)) 248))) else (some (5, wrap64 (Int.tdiv (wrap64 (a0 - 1288)) 16))))))) = some (r1, r2) := by rw [if_neg (show ¬ (false = true) by decide)] at H; exact H
    clear H
    have H := H1
    clear H1
    by_cases c5 : a0 < 8
    ·rw [if_pos c5] at H
     have c5b0 : decide (a0 < 8) = true := decide_eq_true c5
     clear c5
     simp only [Option.some.injEq, Prod.mk.injEq] at H
     obtain ⟨rfl, rfl⟩ := H
     go_wp2
     go_ret2
     exact ⟨by first | rfl | (simp; done) | (simp [*]; done), by repeat (first | exact zN.refl _ | apply zN.step)⟩
    ·rw [if_neg c5] at H
     have c5b0 : decide (a0 < 8) = false := decide_eq_false c5
     clear c5
     by_cases c6 : a0 < 200
     ·rw [if_pos c6] at H
      have c6b0 : decide (a0 < 200) = true := decide_eq_true c6
      clear c6
      simp only [Option.some.injEq, Prod.mk.injEq] at H
      obtain ⟨rfl, rfl⟩ := H
      go_wp2
      go_ret2
      exact ⟨by first | rfl | (simp; done) | (simp [*]; done), by repeat (first | exact zN.refl _ | apply zN.step)⟩
     ·rw [if_neg c6] at H
      have c6b0 : decide (a0 < 200) = false := decide_eq_false c6
      clear c6
      by_cases c7 : a0 < 296
      ·rw [if_pos c7] at H
       have c7b0 : decide (a0 < 296) = true := decide_eq_true c7
       clear c7
       simp only [Option.some.injEq, Prod.mk.injEq] at H
       obtain ⟨rfl, rfl⟩ := H
       go_wp2
       go_ret2
       exact ⟨by first | rfl | (simp; done) | (simp [*]; done), by repeat (first | exact zN.refl _ | apply zN.step)⟩
      ·rw [if_neg c7] at H
       have c7b0 : decide (a0 < 296) = false := decide_eq_false c7
       clear c7
       by_cases c8 : a0 < 1288
       ·rw [if_pos c8] at H
        have c8b0 : decide (a0 < 1288) = true := decide_eq_true c8
        clear c8
        simp only [Option.some.injEq, Prod.mk.injEq] at H
        obtain ⟨rfl, rfl⟩ := H
        go_wp2
        go_ret2
        exact ⟨by first | rfl | (simp; done) | (simp [*]; done), by repeat (first | exact zN.refl _ | apply zN.step)⟩
       ·rw [if_neg c8] at H
        have c8b0 : decide (a0 < 1288) = false := decide_eq_false c8
        clear c8
        simp only [Option.some.injEq, Prod.mk.injEq] at H
        obtain ⟨rfl, rfl⟩ := H
        go_wp2
        go_ret2
        exact ⟨by first | rfl | (simp; done) | (simp [*]; done), by repeat (first | exact zN.refl _ | apply zN.step)⟩

/-! ### escritoireref05_Open: function 64 -/
def escritoireref05_Open.f (k : Nat) (a0 : Int) : Option (Bool) := (escritoireref05_What.f k a0).bind fun Jg => (if Jg.1 = 2 then (some true) else (if Jg.1 = 3 then (some true) else (some (Jg.1 == 5))))
set_option maxHeartbeats 8000000 in
set_option maxRecDepth 100000 in
theorem escritoireref05_Open.calls (k : Nat) (a0 : Int) (r : Bool) (w : World) (h : escritoireref05_Open.f k a0 = some r) :
  Calls Try.prog 64 #[.int .i64 a0] w fun e w' => e = .returned (.bool r) ∧ zN w w' := by
 have H : ((escritoireref05_What.f k a0).bind fun Jg => (if Jg.1 = 2 then (some true) else (if Jg.1 = 3 then (some true) else (some (Jg.1 == 5))))) = some r := h
 clear h
 replace H := Option.bind_eq_some_iff.mp H
 obtain ⟨⟨t222, J5⟩, A20, H⟩ := H
 replace H : (if t222 = 2 then (some true) else (if t222 = 3 then (some true) else (some (t222 == 5)))) = some r := H
 have A2 := ze.mk A20
 clear A20
 by_cases c3 : t222 = 2
 ·rw [if_pos c3] at H
  have Jt : (t222 == 2) = true := beq_iff_eq.mpr c3
  have c3b1 : (t222 != 2) = false := bne_eq_false_iff_eq.mpr c3
  clear c3
  obtain rfl := Option.some.inj H
  go_enter Try.func64, Try.ntmps64
  go_wp2_with (first | ((with_reducible refine zM (f := 78) rfl ?_); refine yl (some 7) rfl rfl Try.func78 (by kernel_rfl) rfl #[.int .i64 a0] rfl (by (try simp only [List.map_toArray, List.map_cons, List.map_nil]); first | done | rfl | (simp only [List.length_drop, List.length_take]; rfl)) ?_; (with_reducible refine (escritoireref05_What.calls k a0 t222 J5 _ A2.o).mono ?_); rintro e w' ⟨rfl, ⟨nd, rfl⟩⟩; refine ⟨_, rfl, ?_⟩))
  go_ret
  exact ⟨by first | rfl | (simp; done) | (simp [*]; done), by repeat (first | exact zN.refl _ | apply zN.step)⟩
 ·rw [if_neg c3] at H
  have Jt : (t222 == 2) = false := beq_eq_false_iff_ne.mpr c3
  have c3b1 : (t222 != 2) = true := bne_iff_ne.mpr c3
  by_cases c4 : t222 = 3
  ·rw [if_pos c4] at H
   have c4b0 : (t222 == 3) = true := beq_iff_eq.mpr c4
   have c4b1 : (t222 != 3) = false := bne_eq_false_iff_eq.mpr c4
   clear c4
   obtain rfl := Option.some.inj H
   go_enter Try.func64, Try.ntmps64
   go_wp2_with (first | ((with_reducible refine zM (f := 78) rfl ?_); refine yl (some 7) rfl rfl Try.func78 (by kernel_rfl) rfl #[.int .i64 a0] rfl (by (try simp only [List.map_toArray, List.map_cons, List.map_nil]); first | done | rfl | (simp only [List.length_drop, List.length_take]; rfl)) ?_; (with_reducible refine (escritoireref05_What.calls k a0 t222 J5 _ A2.o).mono ?_); rintro e w' ⟨rfl, ⟨nd, rfl⟩⟩; refine ⟨_, rfl, ?_⟩))
   go_ret
   exact ⟨by first | rfl | (simp; done) | (simp [*]; done), by repeat (first | exact zN.refl _ | apply zN.step)⟩
  ·rw [if_neg c4] at H
   have c4b0 : (t222 == 3) = false := beq_eq_false_iff_ne.mpr c4
   have c4b1 : (t222 != 3) = true := bne_iff_ne.mpr c4
   obtain rfl := Option.some.inj H
   go_enter Try.func64, Try.ntmps64
   go_wp2_with (first | ((with_reducible refine zM (f := 78) rfl ?_); refine yl (some 7) rfl rfl Try.func78 (by kernel_rfl) rfl #[.int .i64 a0] rfl (by (try simp only [List.map_toArray, List.map_cons, List.map_nil]); first | done | rfl | (simp only [List.length_drop, List.length_take]; rfl)) ?_; (with_reducible refine (escritoireref05_What.calls k a0 t222 J5 _ A2.o).mono ?_); rintro e w' ⟨rfl, ⟨nd, rfl⟩⟩; refine ⟨_, rfl, ?_⟩))
   go_ret
   exact ⟨by first | rfl | (simp; done) | (simp [*]; done), by repeat (first | exact zN.refl _ | apply zN.step)⟩

/-! ### escritoireref06_None: function 79 -/
def escritoireref06_None.f (a0 : Int) : Option (Int × Int × Int × Int × Int × Int × Int × Int × Int × Int) := some (0, 0, 0, a0, (-1), (-1), (-1), (-1), (-1), (-1))
set_option maxHeartbeats 8000000 in
set_option maxRecDepth 100000 in
theorem escritoireref06_None.calls (a0 : Int) (r1 : Int) (r2 : Int) (r3 : Int) (r4 : Int) (r5 : Int) (r6 : Int) (r7 : Int) (r8 : Int) (r9 : Int) (r10 : Int) (w : World) (h : escritoireref06_None.f a0 = some (r1, r2, r3, r4, r5, r6, r7, r8, r9, r10)) :
  Calls Try.prog 79 #[.int .u64 a0] w fun e w' => e = .returned (.agg #[.int .i64 r1, .int .i64 r2, .int .i64 r3, .int .u64 r4, .int .i64 r5, .int .i64 r6, .int .i64 r7, .int .i64 r8, .int .i64 r9, .int .i64 r10]) ∧ Below w.heap.size w w' := by
 have hu45 := Try.underlying45
 have hu43 := Try.underlying43
 have HB := ze.mk (Below.refl w.heap.size w)
 have H : (some (0, 0, 0, a0, (-1), (-1), (-1), (-1), (-1), (-1))) = some (r1, r2, r3, r4, r5, r6, r7, r8, r9, r10) := h
 clear h
 simp only [Option.some.injEq, Prod.mk.injEq] at H
 obtain ⟨rfl, rfl, rfl, rfl, rfl, rfl, rfl, rfl, rfl, rfl⟩ := H
 go_enter Try.func79, Try.ntmps79
 go_wp2_with (first | ((with_reducible refine zC (N := 2) rfl ?_); refine zD ?hg (N := 2) ?hd (cs := #[.int .i64 0, .int .i64 0, .int .i64 0, .int .u64 0, .int .i64 0, .int .i64 0, .int .i64 0, .int .i64 0, .int .i64 0, .int .i64 0]) (t := 45) ?hr ?_; (case hd => rfl); (case hg => rfl); (case hr => first | (go_simp; done) | (go_simp; rfl)); intro Jc hg w2 hbox hb; have n0_ := ze.mk (zu (by repeat (first | (with_reducible first | exact HB.o | apply zl | apply zf | apply zk) | exact HB.o)) hb); have n1_ := ze.mk (hbox); have n2_ := ze.mk ((by rw [hg]; exact (zt (by repeat (first | (with_reducible first | exact HB.o | apply zl | apply zf | apply zk) | exact HB.o))) : w.heap.size ≤ Jc)); have n3_ := ze.mk ((by rw [hg]; exact (zt (by repeat (first | (with_reducible first | exact HB.o | apply zl | apply zf | apply zk) | exact HB.o))) : w.heap.size ≤ Jc)); clear HB; have HB := n0_; have Jb := n1_; have GW224 := n2_; have J3 := n3_; clear n0_ n1_ n2_ n3_; clear hb hbox hg; have JQ : w2.cell? ⟨Jc, 0, none⟩ = some (.int .i64 0) := (zb Jb.o 0).trans rfl; have JP : w2.cell? ⟨Jc, 1, none⟩ = some (.int .i64 0) := (zb Jb.o 1).trans rfl; have JO : w2.cell? ⟨Jc, 2, none⟩ = some (.int .i64 0) := (zb Jb.o 2).trans rfl; have JN : w2.cell? ⟨Jc, 3, none⟩ = some (.int .u64 0) := (zb Jb.o 3).trans rfl; have JL : w2.cell? ⟨Jc, 4, none⟩ = some (.int .i64 0) := (zb Jb.o 4).trans rfl; have JK : w2.cell? ⟨Jc, 5, none⟩ = some (.int .i64 0) := (zb Jb.o 5).trans rfl; have JJ : w2.cell? ⟨Jc, 6, none⟩ = some (.int .i64 0) := (zb Jb.o 6).trans rfl; have JI : w2.cell? ⟨Jc, 7, none⟩ = some (.int .i64 0) := (zb Jb.o 7).trans rfl; have JH : w2.cell? ⟨Jc, 8, none⟩ = some (.int .i64 0) := (zb Jb.o 8).trans rfl; have JG : w2.cell? ⟨Jc, 9, none⟩ = some (.int .i64 0) := (zb Jb.o 9).trans rfl; have JF := za Jb.o 0; have JE := za Jb.o 1; have JD := za Jb.o 2; have JC := za Jb.o 3; have JB := za Jb.o 4; have JA := za Jb.o 5; have Jz := za Jb.o 6; have Jy := za Jb.o 7; have Jw := za Jb.o 8; have Jv := za Jb.o 9) | ((with_reducible refine zJ (t := 45) (p := 2) rfl ?_); refine zH (t := 45) (p := 2) (v := ?vo_w4) (w1 := ((((((((((w2.setCell ⟨Jc, 0, none⟩ (.int .i64 0)).setCell ⟨Jc, 1, none⟩ (.int .i64 0)).setCell ⟨Jc, 2, none⟩ (.int .i64 0)).setCell ⟨Jc, 3, none⟩ (.int .u64 a0)).setCell ⟨Jc, 4, none⟩ (.int .i64 (-1))).setCell ⟨Jc, 5, none⟩ (.int .i64 (-1))).setCell ⟨Jc, 6, none⟩ (.int .i64 (-1))).setCell ⟨Jc, 7, none⟩ (.int .i64 (-1))).setCell ⟨Jc, 8, none⟩ (.int .i64 (-1))).setCell ⟨Jc, 9, none⟩ (.int .i64 (-1)))) ?hg ?ho ?hn ?hr ?_; (case ho => rfl); (case hg => rfl); (case hn => rfl); (case hr => exact zL rfl rfl rfl (zP (P := Try.prog) (o := 0) (cur := #[.int .i64 0, .int .i64 0, .int .i64 0, .int .u64 0, .int .i64 0, .int .i64 0, .int .i64 0, .int .i64 0, .int .i64 0, .int .i64 0]) 45 (.agg #[.int .i64 0, .int .i64 0, .int .i64 0, .int .u64 a0, .int .i64 (-1), .int .i64 (-1), .int .i64 (-1), .int .i64 (-1), .int .i64 (-1), .int .i64 (-1)]) [.int .i64 0, .int .i64 0, .int .i64 0, .int .u64 a0, .int .i64 (-1), .int .i64 (-1), .int .i64 (-1), .int .i64 (-1), .int .i64 (-1), .int .i64 (-1)] (show _ = some (Obj.cells #[.int .i64 0, .int .i64 0, .int .i64 0, .int .u64 0, .int .i64 0, .int .i64 0, .int .i64 0, .int .i64 0, .int .i64 0, .int .i64 0] 45 (0, 0)) from (by (with_reducible repeat (first | refine zg ?_ _ | refine zi ?_ | refine zh ?_ _)); exact Jb.o)) rfl (by kernel_rfl) (show 10 ≤ 10 by decide) (by intro q_ hq_; simp only [List.mem_cons, List.not_mem_nil, or_false] at hq_; rcases hq_ with rfl | rfl | rfl | rfl | rfl | rfl | rfl | rfl | rfl | rfl <;> rfl))); intro w4 hw; have n0_ : ze (w4.heap[Jc]? = some (.cells #[.int .i64 0, .int .i64 0, .int .i64 0, .int .u64 a0, .int .i64 (-1), .int .i64 (-1), .int .i64 (-1), .int .i64 (-1), .int .i64 (-1), .int .i64 (-1)] 45 (0, 0))) := ⟨(by rw [hw]; exact (by (with_reducible repeat (first | refine zg ?_ _ | refine zi ?_ | refine zh ?_ _)); refine zq (cs := #[.int .i64 0, .int .i64 0, .int .i64 0, .int .u64 a0, .int .i64 (-1), .int .i64 (-1), .int .i64 (-1), .int .i64 (-1), .int .i64 (-1), .int .i64 0]) ?_ 9 _ rfl; (with_reducible repeat (first | refine zg ?_ _ | refine zi ?_ | refine zh ?_ _)); refine zq (cs := #[.int .i64 0, .int .i64 0, .int .i64 0, .int .u64 a0, .int .i64 (-1), .int .i64 (-1), .int .i64 (-1), .int .i64 (-1), .int .i64 0, .int .i64 0]) ?_ 8 _ rfl; (with_reducible repeat (first | refine zg ?_ _ | refine zi ?_ | refine zh ?_ _)); refine zq (cs := #[.int .i64 0, .int .i64 0, .int .i64 0, .int .u64 a0, .int .i64 (-1), .int .i64 (-1), .int .i64 (-1), .int .i64 0, .int .i64 0, .int .i64 0]) ?_ 7 _ rfl; (with_reducible repeat (first | refine zg ?_ _ | refine zi ?_ | refine zh ?_ _)); refine zq (cs := #[.int .i64 0, .int .i64 0, .int .i64 0, .int .u64 a0, .int .i64 (-1), .int .i64 (-1), .int .i64 0, .int .i64 0, .int .i64 0, .int .i64 0]) ?_ 6 _ rfl; (with_reducible repeat (first | refine zg ?_ _ | refine zi ?_ | refine zh ?_ _)); refine zq (cs := #[.int .i64 0, .int .i64 0, .int .i64 0, .int .u64 a0, .int .i64 (-1), .int .i64 0, .int .i64 0, .int .i64 0, .int .i64 0, .int .i64 0]) ?_ 5 _ rfl; (with_reducible repeat (first | refine zg ?_ _ | refine zi ?_ | refine zh ?_ _)); refine zq (cs := #[.int .i64 0, .int .i64 0, .int .i64 0, .int .u64 a0, .int .i64 0, .int .i64 0, .int .i64 0, .int .i64 0, .int .i64 0, .int .i64 0]) ?_ 4 _ rfl; (with_reducible repeat (first | refine zg ?_ _ | refine zi ?_ | refine zh ?_ _)); refine zq (cs := #[.int .i64 0, .int .i64 0, .int .i64 0, .int .u64 0, .int .i64 0, .int .i64 0, .int .i64 0, .int .i64 0, .int .i64 0, .int .i64 0]) ?_ 3 _ rfl; (with_reducible repeat (first | refine zg ?_ _ | refine zi ?_ | refine zh ?_ _)); refine zq (cs := #[.int .i64 0, .int .i64 0, .int .i64 0, .int .u64 0, .int .i64 0, .int .i64 0, .int .i64 0, .int .i64 0, .int .i64 0, .int .i64 0]) ?_ 2 _ rfl; (with_reducible repeat (first | refine zg ?_ _ | refine zi ?_ | refine zh ?_ _)); refine zq (cs := #[.int .i64 0, .int .i64 0, .int .i64 0, .int .u64 0, .int .i64 0, .int .i64 0, .int .i64 0, .int .i64 0, .int .i64 0, .int .i64 0]) ?_ 1 _ rfl; (with_reducible repeat (first | refine zg ?_ _ | refine zi ?_ | refine zh ?_ _)); refine zq (cs := #[.int .i64 0, .int .i64 0, .int .i64 0, .int .u64 0, .int .i64 0, .int .i64 0, .int .i64 0, .int .i64 0, .int .i64 0, .int .i64 0]) ?_ 0 _ rfl; (with_reducible repeat (first | refine zg ?_ _ | refine zi ?_ | refine zh ?_ _)); exact Jb.o))⟩; have n1_ : ze (Below w.heap.size w w4) := ⟨(by rw [hw]; exact (by repeat (first | (with_reducible first | exact HB.o | apply zl | apply zf | apply zk | refine zm ?_ J3.o) | exact HB.o)))⟩; clear hw; clear Jb; clear HB; have Jb := n0_; have HB := n1_; clear n0_ n1_))
 refine bodyPost_ret (results_cell_row rfl _ _ Jc 45 #[.int .i64 0, .int .i64 0, .int .i64 0, .int .u64 a0, .int .i64 (-1), .int .i64 (-1), .int .i64 (-1), .int .i64 (-1), .int .i64 (-1), .int .i64 (-1)] (0, 0) _ rfl (by (with_reducible repeat (first | refine zg ?_ _ | refine zi ?_ | refine zh ?_ _)); exact Jb.o) Try.underlying45 rfl (by kernel_rfl)) rfl ?_
 exact ⟨by first | rfl | (simp [zy, zx] <;> rfl) | (simp [*, zy, zx] <;> rfl), by repeat (first | (with_reducible first | exact HB.o | apply zl | apply zf | apply zk | refine zm ?_ J3.o) | exact HB.o)⟩

/-! ### escritoireref06_block: function 98 -/
def escritoireref06_block.f (a0 : Int) : Option (Bool) := if a0 ≥ (-1) then (some (decide (a0 < 96))) else (some false)
set_option maxHeartbeats 8000000 in
set_option maxRecDepth 100000 in
theorem escritoireref06_block.calls (a0 : Int) (r : Bool) (w : World) (h : escritoireref06_block.f a0 = some r) :
  Calls Try.prog 98 #[.int .i64 a0] w fun e w' => e = .returned (.bool r) ∧ zN w w' := by
 have H : (if a0 ≥ (-1) then (some (decide (a0 < 96))) else (some false)) = some r := h
 clear h
 by_cases c2 : a0 ≥ (-1)
 ·rw [if_pos c2] at H
  have c2b0 : decide ((-1) ≤ a0) = true := decide_eq_true c2
  clear c2
  obtain rfl := Option.some.inj H
  go_enter Try.func98, Try.ntmps98
  go_wp2
  go_ret
  exact ⟨by first | rfl | (simp; done) | (simp [*]; done), by repeat (first | exact zN.refl _ | apply zN.step)⟩
 ·rw [if_neg c2] at H
  have c2b0 : decide ((-1) ≤ a0) = false := decide_eq_false c2
  clear c2
  obtain rfl := Option.some.inj H
  go_enter Try.func98, Try.ntmps98
  go_wp2
  go_ret
  exact ⟨by first | rfl | (simp; done) | (simp [*]; done), by repeat (first | exact zN.refl _ | apply zN.step)⟩

end Go.Proofs.Ytkbhilhefnahpaa.Print
