import Derived.Test.YtkbhilhefnahpaaPrint0
namespace Go.Proofs.Ytkbhilhefnahpaa.Print
open Go.RowKit Go.Proofs.YtkbhilhefnahpaaW.PrintWords Go.Proofs.YtkbhilhefnahpaaW.PrintLast Go.Proofs.YtkbhilhefnahpaaW.PrintMore
attribute [local go_sem] Zd Zc ZF ZE yV yU Zk Zj   -- for this text's walks alone
set_option linter.unusedVariables false
set_option linter.unusedSimpArgs false

/-! ### plan_part_end: function 62 -/
def plan_part_end.f (Ba : Int) (DI : Int) (DF : Int) (DD : Int) : Option (Int) := some (wrap64 (DI + (wrap64 (DF * DD))))
set_option maxHeartbeats 8000000 in
set_option maxRecDepth 100000 in
theorem plan_part_end.calls (Ba : Int) (DI : Int) (DF : Int) (DD : Int) (r : Int) (w : World) (h : plan_part_end.f Ba DI DF DD = some r) :
  Calls Try.prog 62 #[.agg #[.int .i64 Ba, .int .i64 DI, .int .i64 DF, .int .i64 DD]] w fun e w' => e = .returned (.int .i64 r) ∧ Below w.heap.size w w' := by
 have Bj := Try.underlying92
 have HB := ze.mk (Below.refl w.heap.size w)
 have H : (some (wrap64 (DI + (wrap64 (DF * DD))))) = some r := h
 clear h
 obtain rfl := Option.some.inj H
 go_enter Try.func62, Try.ntmps62
 go_wp2_with (first | ((with_reducible refine zC (N := 1) rfl ?_); refine zD ?hg (N := 1) ?hd (cs := #[.int .i64 Ba, .int .i64 DI, .int .i64 DF, .int .i64 DD]) (t := 92) ?hr ?_; (case hd => rfl); (case hg => rfl); (case hr => first | (go_simp; done) | (go_simp; rfl)); intro J3 hg w2 hbox hb; have n0_ := ze.mk (zu (by repeat (first | (with_reducible first | exact HB.o | apply zl | apply zf | apply zk) | exact HB.o)) hb); have n1_ := ze.mk (hbox); have n2_ := ze.mk ((by rw [hg]; exact (zt (by repeat (first | (with_reducible first | exact HB.o | apply zl | apply zf | apply zk) | exact HB.o))) : w.heap.size ≤ J3)); have n3_ := ze.mk ((by rw [hg]; exact (zt (by repeat (first | (with_reducible first | exact HB.o | apply zl | apply zf | apply zk) | exact HB.o))) : w.heap.size ≤ J3)); clear HB; have HB := n0_; have JC := n1_; have GW101 := n2_; have Jar := n3_; clear n0_ n1_ n2_ n3_; clear hb hbox hg; have hcz3_0 : w2.cell? ⟨J3, 0, none⟩ = some (.int .i64 Ba) := (zb JC.o 0).trans rfl; have hcz3_1 : w2.cell? ⟨J3, 1, none⟩ = some (.int .i64 DI) := (zb JC.o 1).trans rfl; have hcz3_2 : w2.cell? ⟨J3, 2, none⟩ = some (.int .i64 DF) := (zb JC.o 2).trans rfl; have hcz3_3 : w2.cell? ⟨J3, 3, none⟩ = some (.int .i64 DD) := (zb JC.o 3).trans rfl; have hfz3_0 := za JC.o 0; have hfz3_1 := za JC.o 1; have hfz3_2 := za JC.o 2; have hfz3_3 := za JC.o 3))
 go_ret
 exact ⟨by first | rfl | (simp [zy, zx] <;> rfl) | (simp [*, zy, zx] <;> rfl), by repeat (first | (with_reducible first | exact HB.o | apply zl | apply zf | apply zk | refine zm ?_ Jar.o) | exact HB.o)⟩

/-! ### plan_parts: function 69 -/
def plan_parts.l0 : Nat → List (S92) → Int → Option ((List (S92)))
 | 0, _, _ => none
 | k + 1, x1, x2 => if x2 < (x1.length : Int) then (if 0 ≤ (wrap64 (x2 - 1)) then (if (wrap64 (x2 - 1)) < (x1.length : Int) then ((plan_part_end.f ((zn x1 (wrap64 (x2 - 1))).f0) ((zn x1 (wrap64 (x2 - 1))).f1) ((zn x1 (wrap64 (x2 - 1))).f2) ((zn x1 (wrap64 (x2 - 1))).f3)).bind fun J5 => (if 0 ≤ x2 then (plan_parts.l0 k (x1.set (x2 : Int).toNat (⟨(zn x1 x2).f0, J5, (zn x1 x2).f2, (zn x1 x2).f3⟩ : S92)) (wrap64 (x2 + 1))) else (none))) else (none)) else (none)) else (some x1)
def plan_parts.f (k : Nat)  : Option ((List (S92))) := plan_parts.l0 k (([(⟨1, 0, 1, 8⟩ : S92), (⟨2, 0, 24, 8⟩ : S92), (⟨3, 0, 96, 1⟩ : S92), (⟨4, 0, 4, 248⟩ : S92), (⟨5, 0, 96, 16⟩ : S92)] : List (S92))) 1
theorem plan_parts.Xj : ∀ k, (∀ y0 y1, LeO (plan_parts.l0 k y0 y1) (plan_parts.l0 (k + 1) y0 y1))
 | 0 => fun _ _ r h => by simp [plan_parts.l0] at h
 | k + 1 => by
  have ih0 := plan_parts.Xj k
  ·intro y0 y1
   unfold plan_parts.l0
   repeat' first
   | (with_reducible exact ih0 _ _)
   | (with_reducible exact LeO.refl _)
   | (with_reducible exact LeO.none _)
   | (with_reducible refine LeO.ite ?_ ?_)
   | (with_reducible refine LeO.bind ?_ (fun _ => ?_))
   | exact ih0 _ _
   | exact LeO.none _
   | refine LeO.ite ?_ ?_
   | refine LeO.bind ?_ (fun _ => ?_)
theorem plan_parts.mono : ∀ k, LeO (plan_parts.f k ) (plan_parts.f (k + 1) ) := by
 intro  k
 have ih0 := plan_parts.Xj k
 unfold plan_parts.f
 repeat' first
   | (with_reducible exact ih0 _ _)
   | (with_reducible exact LeO.refl _)
   | (with_reducible exact LeO.none _)
   | (with_reducible refine LeO.ite ?_ ?_)
   | (with_reducible refine LeO.bind ?_ (fun _ => ?_))
   | exact ih0 _ _
   | exact LeO.none _
   | refine LeO.ite ?_ ?_
   | refine LeO.bind ?_ (fun _ => ?_)
set_option maxHeartbeats 8000000 in
set_option maxRecDepth 100000 in
theorem plan_parts.calls (k : Nat)  (r : List (S92)) (w : World) (h : plan_parts.f k  = some r) :
  Calls Try.prog 69 #[] w fun e w' => ∃ v0_ : Value, e = .returned (v0_) ∧ Kd.R k92 92 w' w.heap.size (fun _ => True) v0_ r ∧ Below w.heap.size w w' := by
 have Bj := Try.underlying92
 have HB := ze.mk (Below.refl w.heap.size w)
 have H : (plan_parts.l0 k (([(⟨1, 0, 1, 8⟩ : S92), (⟨2, 0, 24, 8⟩ : S92), (⟨3, 0, 96, 1⟩ : S92), (⟨4, 0, 4, 248⟩ : S92), (⟨5, 0, 96, 16⟩ : S92)] : List (S92))) 1) = some r := h
 clear h
 obtain ⟨y102, hy102⟩ : ∃ y_ : List (S92), y_ = (([(⟨1, 0, 1, 8⟩ : S92), (⟨2, 0, 24, 8⟩ : S92), (⟨3, 0, 96, 1⟩ : S92), (⟨4, 0, 4, 248⟩ : S92), (⟨5, 0, 96, 16⟩ : S92)] : List (S92))) := ⟨_, rfl⟩
 replace H : (plan_parts.l0 k y102 1) = some r := by first | (rw [hy102]; with_reducible exact H) | (have H2_ := (Option.bind_some _ _).symm.trans H; rw [hy102]; with_reducible exact H2_) | (have H2_ := (Option.bind_some _ _).symm.trans H; with_reducible exact H2_) | with_reducible exact H | (rw [hy102]; exact H) | exact H
 have Bd := ze.mk hy102
 clear hy102
 have H' := ze.mk H
 clear H
 go_enter Try.func69, Try.ntmps69
 go_wp2_with (first | ((with_reducible refine zC (N := 8) rfl ?_); refine Kd.R_lit k92 _ 92 ?hg (N := 8) ?hd (xs := ([(⟨1, 0, 1, 8⟩ : S92), (⟨2, 0, 24, 8⟩ : S92), (⟨3, 0, 96, 1⟩ : S92), (⟨4, 0, 4, 248⟩ : S92), (⟨5, 0, 96, 16⟩ : S92)] : List (S92))) (inner := [.int .i64 1, .int .i64 0, .int .i64 1, .int .i64 8, .int .i64 2, .int .i64 0, .int .i64 24, .int .i64 8, .int .i64 3, .int .i64 0, .int .i64 96, .int .i64 1, .int .i64 4, .int .i64 0, .int .i64 4, .int .i64 248, .int .i64 5, .int .i64 0, .int .i64 96, .int .i64 16]) (ok := fun _ => True) (okp := fun _ => True) ?hr ?hp (fun _ hk => hk) trivial (Below.refl _ _) (Nat.le_refl _) (by simp) ?_; (case hd => rfl); (case hg => rfl); (case hr => first | (go_simp; done) | (go_simp; rfl)); (case hp => exact (Reps.c4 (show Kd.M k92 _ _ _ (⟨1, 0, 1, 8⟩ : S92) [.int .i64 1, .int .i64 0, .int .i64 1, .int .i64 8] from (Xf _ _ _ (⟨1, 0, 1, 8⟩ : S92) )) (Reps.c4 (show Kd.M k92 _ _ _ (⟨2, 0, 24, 8⟩ : S92) [.int .i64 2, .int .i64 0, .int .i64 24, .int .i64 8] from (Xf _ _ _ (⟨2, 0, 24, 8⟩ : S92) )) (Reps.c4 (show Kd.M k92 _ _ _ (⟨3, 0, 96, 1⟩ : S92) [.int .i64 3, .int .i64 0, .int .i64 96, .int .i64 1] from (Xf _ _ _ (⟨3, 0, 96, 1⟩ : S92) )) (Reps.c4 (show Kd.M k92 _ _ _ (⟨4, 0, 4, 248⟩ : S92) [.int .i64 4, .int .i64 0, .int .i64 4, .int .i64 248] from (Xf _ _ _ (⟨4, 0, 4, 248⟩ : S92) )) (Reps.c4 (show Kd.M k92 _ _ _ (⟨5, 0, 96, 16⟩ : S92) [.int .i64 5, .int .i64 0, .int .i64 96, .int .i64 16] from (Xf _ _ _ (⟨5, 0, 96, 16⟩ : S92) )) (Reps.none _ _))))))); intro v103 w1 ho2 hb hg_ hnew_; clear hg_ hnew_; (first | rw [← Bd.o] at ho2 | (simp only [Int.reduceToNat] at ho2; rw [← Bd.o] at ho2)); have n0_ := ze.mk (Kd.yf ho2 (zt (by repeat (first | (with_reducible first | exact HB.o | apply zl | apply zf | apply zk) | exact HB.o)))); have n1_ := ze.mk (zu (by repeat (first | (with_reducible first | exact HB.o | apply zl | apply zf | apply zk) | exact HB.o)) hb); clear HB; have Jaq := n0_; have HB := n1_; clear n0_ n1_; clear hb ho2))
 go_loopg [2] k (fun kq v2 w' => ∃ (Ji : List (S92)) (Jg : Int), v2 = .int .i64 Jg ∧ ze (plan_parts.l0 kq Ji Jg = some r) ∧ ze (kq ≤ k) ∧ ze (Kd.R k92 92 w' w.heap.size (fun _ => True) v103 Ji) ∧ ze (Below w.heap.size w w'))
 case atStart => exact ⟨(y102), (1), (by first | rfl | (simp; done) | (simp [*]; done) | kernel_rfl), H', ⟨Nat.le_refl _⟩, ⟨by (with_reducible repeat (first | apply Kd.zz | apply Kd.zA | apply Kd.zF)); exact Jaq.o⟩, ⟨by repeat (first | (with_reducible first | exact HB.o | apply zl | apply zf | apply zk) | exact HB.o)⟩⟩
 case round =>
  clear H'
  try clear p2
  obtain ⟨Ji, Jg, rfl, HA, HK1, JX, HB⟩ := hrel
  cases gk with
  | zero => exact absurd HA.o (by simp [plan_parts.l0])
  | succ k1 =>
   have H := HA.o
   clear HA
   simp only [plan_parts.l0] at H
   by_cases c3 : Jg < (Ji.length : Int)
   ·rw [if_pos c3] at H
    have c3b0 : decide (Jg < (Ji.length : Int)) = true := decide_eq_true c3
    clear c3
    obtain ⟨ji4, Bl⟩ : ∃ j_ : Int, (wrap64 (Jg - 1)) = j_ := ⟨_, rfl⟩
    replace H : (if 0 ≤ (ji4) then (if (ji4) < (Ji.length : Int) then ((plan_part_end.f ((zn Ji (ji4)).f0) ((zn Ji (ji4)).f1) ((zn Ji (ji4)).f2) ((zn Ji (ji4)).f3)).bind fun J5 => (if 0 ≤ Jg then (plan_parts.l0 k1 (Ji.set (Jg : Int).toNat (⟨(zn Ji Jg).f0, J5, (zn Ji Jg).f2, (zn Ji Jg).f3⟩ : S92)) (wrap64 (Jg + 1))) else (none))) else (none)) else (none)) = some r := by first | (rw [Bl] at H; exact H) | (simp only [Bl] at H ⊢; exact H)
    have hji4w : (IntKind.i64.wrap (Jg - 1)) = ji4 := (i64_w _).trans Bl
    by_cases c5 : 0 ≤ (ji4)
    ·rw [if_pos c5] at H
     have Jad : decide (0 ≤ (ji4)) = true := decide_eq_true c5
     clear c5
     by_cases c6 : (ji4) < (Ji.length : Int)
     ·rw [if_pos c6] at H
      have c6b0 : decide ((ji4) < (Ji.length : Int)) = true := decide_eq_true c6
      clear c6
      replace H := Option.bind_eq_some_iff.mp H
      obtain ⟨J5, A70, H⟩ := H
      replace H : (if 0 ≤ Jg then (plan_parts.l0 k1 (Ji.set (Jg : Int).toNat (⟨(zn Ji Jg).f0, J5, (zn Ji Jg).f2, (zn Ji Jg).f3⟩ : S92)) (wrap64 (Jg + 1))) else (none)) = some r := H
      have A7 := ze.mk A70
      clear A70
      by_cases c8 : 0 ≤ Jg
      ·rw [if_pos c8] at H
       have c8b0 : decide (0 ≤ Jg) = true := decide_eq_true c8
       clear c8
       obtain ⟨Bp, Gf⟩ : ∃ y_ : List (S92), y_ = (Ji.set (Jg : Int).toNat (⟨(zn Ji Jg).f0, J5, (zn Ji Jg).f2, (zn Ji Jg).f3⟩ : S92)) := ⟨_, rfl⟩
       replace H : (plan_parts.l0 k1 Bp (wrap64 (Jg + 1))) = some r := by first | (rw [Gf]; with_reducible exact H) | (have H2_ := (Option.bind_some _ _).symm.trans H; rw [Gf]; with_reducible exact H2_) | (have H2_ := (Option.bind_some _ _).symm.trans H; with_reducible exact H2_) | with_reducible exact H | (rw [Gf]; exact H) | exact H
       have Jam := ze.mk Gf
       clear Gf
       have H' := ze.mk H
       clear H
       obtain ⟨Ao10, co10, eo10⟩ := Kd.zY JX.o
       subst eo10
       have BA : 0 ≤ ((ji4) : Int) := of_decide_eq_true (by first | (with_reducible assumption) | assumption)
       have Bu : (ji4) < (Ji.length : Int) := of_decide_eq_true (by first | (with_reducible assumption) | assumption)
       obtain ⟨ad105, e105, Dx, Dw, Dv, Du⟩ := at_T92 (Kd.zQ JX.o).2.2 (ji4) BA Bu
       cases e105
       replace BA := eq_true BA
       replace Bu := eq_true Bu
       go_wp2_with (first | ((with_reducible refine zM (f := 62) rfl ?_); refine yl (some 22) rfl rfl Try.func62 (by kernel_rfl) rfl #[.agg #[.int .i64 ((zn Ji (ji4)).f0), .int .i64 ((zn Ji (ji4)).f1), .int .i64 ((zn Ji (ji4)).f2), .int .i64 ((zn Ji (ji4)).f3)]] rfl (by (try simp only [List.map_toArray, List.map_cons, List.map_nil]); first | done | (simp only [Bl]; rfl) | rfl | (simp only [List.length_drop, List.length_take]; rfl)) ?_; (with_reducible refine (plan_part_end.calls ((zn Ji (ji4)).f0) ((zn Ji (ji4)).f1) ((zn Ji (ji4)).f2) ((zn Ji (ji4)).f3) J5 _ A7.o).mono ?_); rintro e w11 ⟨rfl, hb⟩; refine ⟨_, rfl, ?_⟩; have n0_ := ze.mk (Kd.zS (by (with_reducible repeat (first | apply Kd.zz | apply Kd.zA | apply Kd.zF)); exact JX.o) hb); have n1_ := ze.mk (zu (by repeat (first | (with_reducible first | exact HB.o | apply zl | apply zf | apply zk) | exact HB.o)) hb); clear JX; clear HB; have JX := n0_; have HB := n1_; clear n0_ n1_; (try clear hb); (try clear hb2); (try clear hk); (try clear hi); have p9 : 0 ≤ (Jg : Int) := of_decide_eq_true (by first | (with_reducible assumption) | assumption); have q9 : (Jg : Int) < ((Ji.length : Int) : Int) := of_decide_eq_true (by first | (with_reducible assumption) | assumption); obtain ⟨go9, co9, eo9, gb9, gl9, cl9, HG9⟩ := Kd.Yr JX.o (by omega); (first | cases eo9 | (injection eo9 with ea_ en_ ec_; (first | subst ea_ | (injection ea_ with ea_; subst ea_)); subst ec_; clear en_)); have GB9 := ze.mk gb9; have GG9 := ze.mk HG9; clear gb9 gl9 HG9; (first | simp only [add_plain] at Dx | skip); (first | simp only [add_plain] at Dw | skip); (first | simp only [add_plain] at Dv | skip); (first | simp only [add_plain] at Du | skip); obtain ⟨ce9, hcl9, hM9, D6, DU⟩ := Kd.R_elem JX.o z92 (Jg : Int) p9 q9; obtain rfl := k92_openM hM9; have hx9_0 : w11.cell? ⟨go9, (Jg : Int).toNat * 4, none⟩ = some (.int .i64 ((zn Ji Jg).f0)) := D6 0 _ rfl; have hx9_1 : w11.cell? ⟨go9, (Jg : Int).toNat * 4 + 1, none⟩ = some (.int .i64 ((zn Ji Jg).f1)) := D6 1 _ rfl; have hx9_2 : w11.cell? ⟨go9, (Jg : Int).toNat * 4 + 2, none⟩ = some (.int .i64 ((zn Ji Jg).f2)) := D6 2 _ rfl; have hx9_3 : w11.cell? ⟨go9, (Jg : Int).toNat * 4 + 3, none⟩ = some (.int .i64 ((zn Ji Jg).f3)) := D6 3 _ rfl; have hf9_0 : w11.frozen? ⟨go9, (Jg : Int).toNat * 4, none⟩ = false := DU 0; have hf9_1 : w11.frozen? ⟨go9, (Jg : Int).toNat * 4 + 1, none⟩ = false := DU 1; have hf9_2 : w11.frozen? ⟨go9, (Jg : Int).toNat * 4 + 2, none⟩ = false := DU 2; have hf9_3 : w11.frozen? ⟨go9, (Jg : Int).toNat * 4 + 3, none⟩ = false := DU 3; clear hcl9 D6 DU hM9; replace p9 := eq_true p9; replace q9 := eq_true q9; have HX12 := ze.mk (show Kd.R k92 92 w11 w.heap.size (fun _ => True) (.slice (some ⟨go9, 0, none⟩) Ji.length co10) Ji from (by (with_reducible repeat (first | apply Kd.zz | apply Kd.zA | apply Kd.zF)); exact JX.o)); obtain ⟨ce12, D5, hM12, Dz, DV⟩ := Kd.R_elem HX12.o z92 (Jg : Int) (of_decide_eq_true (by first | (with_reducible assumption) | assumption)) (by have h_ : (Jg : Int) < ((Ji.length : Int) : Int) := of_decide_eq_true (by first | (with_reducible assumption) | assumption); first | exact h_ | (have e_ := (Kd.zQ JX.o).1; omega) | simpa using h_); obtain rfl := k92_openM hM12; have Jao := Kd.R_seg HX12.o (Jg : Int) (of_decide_eq_true (by first | (with_reducible assumption) | assumption)) (by have h_ : (Jg : Int) < ((Ji.length : Int) : Int) := of_decide_eq_true (by first | (with_reducible assumption) | assumption); first | exact h_ | (have e_ := (Kd.zQ JX.o).1; omega) | simpa using h_) (seg := [.int .i64 J5]) (j := 1) D5 Dz (show 2 ≤ 4 from by decide) (x' := (⟨(zn Ji Jg).f0, J5, (zn Ji Jg).f2, (zn Ji Jg).f3⟩ : S92)) (Xf _ _ _ (⟨(zn Ji Jg).f0, J5, (zn Ji Jg).f2, (zn Ji Jg).f3⟩ : S92) ) (fun _ hk => hk); have DR := Dz 1 _ rfl; (try simp only [show (k92).sz = 4 from rfl, Nat.mul_one, Nat.add_zero] at DR); have DZ := DV 1; (try simp only [show (k92).sz = 4 from rfl, Nat.mul_one, Nat.add_zero] at DZ); clear D5 Dz DV hM12) | ((with_reducible refine zJ (t := 3) (p := 24) rfl ?_); refine zH (t := 3) (p := 24) (v := ?vo_w13) (w1 := (w11.setCell ⟨go9, (Jg : Int).toNat * 4 + 1, none⟩ (.int .i64 J5))) ?hg ?ho ?hn ?hr ?_; (case ho => rfl); (case hg => rfl); (case hn => rfl); (case hr => first | (go_simp; done) | (go_simp; rfl)); intro w13 hw; have hg : w11.grownBy w13 (some go9) := (by rw [hw]; exact Jao.2); have hp_ : Kd.R k92 92 w13 w.heap.size (fun _ => True) (.slice (some ⟨go9, 0, none⟩) Ji.length co10) Bp := (by rw [hw, Jam.o]; exact Jao.1); clear Jao; have n0_ := ze.mk (hp_); have n1_ := ze.mk ((by rw [hw]; exact zm (HB.o) GB9.o : Below w.heap.size w w13)); clear JX; clear HB; have JX := n0_; have HB := n1_; clear n0_ n1_; clear hg hw hp_))
       go_roundg k1
       case measure => have := HK1.o; omega
       case rel => exact ⟨(Bp), (wrap64 (Jg + 1)), (by first | rfl | (simp; done) | (simp [*]; done) | kernel_rfl), H', ⟨by have := HK1.o; omega⟩, ⟨by (with_reducible repeat (first | apply Kd.zz | apply Kd.zA | apply Kd.zF)); exact JX.o⟩, ⟨by repeat (first | (with_reducible first | exact HB.o | apply zl | apply zf | apply zk) | exact HB.o)⟩⟩
      ·rw [if_neg c8] at H
       exact absurd H (by simp)
     ·rw [if_neg c6] at H
      exact absurd H (by simp)
    ·rw [if_neg c5] at H
     exact absurd H (by simp)
   ·rw [if_neg c3] at H
    have c3b0 : decide (Jg < (Ji.length : Int)) = false := decide_eq_false c3
    clear c3
    obtain rfl := Option.some.inj H
    obtain ⟨Ao14, co14, eo14⟩ := Kd.zY JX.o
    subst eo14
    go_wp2
    go_ret
    exact ⟨_, by first | rfl | (simp [zy, zx] <;> rfl) | (simp [*, zy, zx] <;> rfl), by (with_reducible repeat (first | apply Kd.zz | apply Kd.zA | apply Kd.zF)); exact JX.o, by repeat (first | (with_reducible first | exact HB.o | apply zl | apply zf | apply zk) | exact HB.o)⟩

/-! ### plan_of: function 61 -/
def plan_of.f (k : Nat) (a0 : Int) : Option (Int × Int × Int × Int) := (plan_parts.f k).bind fun t109 => (if 0 ≤ (wrap64 (a0 - 1)) then (if (wrap64 (a0 - 1)) < (t109.length : Int) then (some ((zn t109 (wrap64 (a0 - 1))).f0, (zn t109 (wrap64 (a0 - 1))).f1, (zn t109 (wrap64 (a0 - 1))).f2, (zn t109 (wrap64 (a0 - 1))).f3)) else (none)) else (none))
theorem plan_of.mono : ∀ a0 k, LeO (plan_of.f k a0) (plan_of.f (k + 1) a0) := by
 intro a0 k
 unfold plan_of.f
 repeat' first
   | (with_reducible exact plan_parts.mono _)
   | (with_reducible exact LeO.refl _)
   | (with_reducible exact LeO.none _)
   | (with_reducible refine LeO.ite ?_ ?_)
   | (with_reducible refine LeO.bind ?_ (fun _ => ?_))
   | exact plan_parts.mono _
   | exact LeO.none _
   | refine LeO.ite ?_ ?_
   | refine LeO.bind ?_ (fun _ => ?_)
set_option maxHeartbeats 8000000 in
set_option maxRecDepth 100000 in
theorem plan_of.calls (k : Nat) (a0 : Int) (r1 : Int) (r2 : Int) (r3 : Int) (r4 : Int) (w : World) (h : plan_of.f k a0 = some (r1, r2, r3, r4)) :
  Calls Try.prog 61 #[.int .i64 a0] w fun e w' => e = .returned (.agg #[.int .i64 r1, .int .i64 r2, .int .i64 r3, .int .i64 r4]) ∧ Below w.heap.size w w' := by
 have Bj := Try.underlying92
 have HB := ze.mk (Below.refl w.heap.size w)
 have H : ((plan_parts.f k).bind fun t109 => (if 0 ≤ (wrap64 (a0 - 1)) then (if (wrap64 (a0 - 1)) < (t109.length : Int) then (some ((zn t109 (wrap64 (a0 - 1))).f0, (zn t109 (wrap64 (a0 - 1))).f1, (zn t109 (wrap64 (a0 - 1))).f2, (zn t109 (wrap64 (a0 - 1))).f3)) else (none)) else (none))) = some (r1, r2, r3, r4) := h
 clear h
 replace H := Option.bind_eq_some_iff.mp H
 obtain ⟨t109, A20, H⟩ := H
 replace H : (if 0 ≤ (wrap64 (a0 - 1)) then (if (wrap64 (a0 - 1)) < (t109.length : Int) then (some ((zn t109 (wrap64 (a0 - 1))).f0, (zn t109 (wrap64 (a0 - 1))).f1, (zn t109 (wrap64 (a0 - 1))).f2, (zn t109 (wrap64 (a0 - 1))).f3)) else (none)) else (none)) = some (r1, r2, r3, r4) := H
 have A2 := ze.mk A20
 clear A20
 obtain ⟨ji3, DT⟩ : ∃ j_ : Int, (wrap64 (a0 - 1)) = j_ := ⟨_, rfl⟩
 replace H : (if 0 ≤ (ji3) then (if (ji3) < (t109.length : Int) then (some ((zn t109 (ji3)).f0, (zn t109 (ji3)).f1, (zn t109 (ji3)).f2, (zn t109 (ji3)).f3)) else (none)) else (none)) = some (r1, r2, r3, r4) := by first | (rw [DT] at H; exact H) | (simp only [DT] at H ⊢; exact H)
 (try rw [DT] at A2)
 have hji3w : (IntKind.i64.wrap (a0 - 1)) = ji3 := (i64_w _).trans DT
 by_cases c4 : 0 ≤ (ji3)
 ·rw [if_pos c4] at H
  have Jae : decide (0 ≤ (ji3)) = true := decide_eq_true c4
  clear c4
  by_cases c5 : (ji3) < (t109.length : Int)
  ·rw [if_pos c5] at H
   have Jad : decide ((ji3) < (t109.length : Int)) = true := decide_eq_true c5
   clear c5
   simp only [Option.some.injEq, Prod.mk.injEq] at H
   obtain ⟨rfl, rfl, rfl, rfl⟩ := H
   go_enter Try.func61, Try.ntmps61
   go_wp2_with (first | ((with_reducible refine zC (N := 2) rfl ?_); refine zD ?hg (N := 2) ?hd (cs := #[.int .i64 0, .int .i64 0, .int .i64 0, .int .i64 0]) (t := 92) ?hr ?_; (case hd => rfl); (case hg => rfl); (case hr => first | (go_simp; done) | (go_simp; rfl)); intro Jj hg w6 hbox hb; have n0_ := ze.mk (zu (by repeat (first | (with_reducible first | exact HB.o | apply zl | apply zf | apply zk) | exact HB.o)) hb); have n1_ := ze.mk (hbox); have n2_ := ze.mk ((by rw [hg]; exact (zt (by repeat (first | (with_reducible first | exact HB.o | apply zl | apply zf | apply zk) | exact HB.o))) : w.heap.size ≤ Jj)); have n3_ := ze.mk ((by rw [hg]; exact (zt (by repeat (first | (with_reducible first | exact HB.o | apply zl | apply zf | apply zk) | exact HB.o))) : w.heap.size ≤ Jj)); clear HB; have HB := n0_; have Jl := n1_; have GW108 := n2_; have Dt := n3_; clear n0_ n1_ n2_ n3_; clear hb hbox hg) | ((with_reducible refine zM (f := 69) rfl ?_); refine yl (some 3) rfl rfl Try.func69 (by kernel_rfl) rfl #[] rfl (by (try simp only [List.map_toArray, List.map_cons, List.map_nil]); first | done | rfl | (simp only [List.length_drop, List.length_take]; rfl)) ?_; (with_reducible refine (plan_parts.calls k  t109 _ A2.o).mono ?_); rintro e w7 ⟨v110, rfl, ho0, hb⟩; refine ⟨_, rfl, ?_⟩; have n0_ := ze.mk (Kd.yf (Kd.R_newB ho0 (g := Jj) (o := .cells #[.int .i64 0, .int .i64 0, .int .i64 0, .int .i64 0] 92 (0, 0)) (by (with_reducible repeat (first | refine zg ?_ _ | refine zi ?_ | refine zh ?_ _)); exact Jl.o)) (zt (by repeat (first | (with_reducible first | exact HB.o | apply zl | apply zf | apply zk | refine zm ?_ Dt.o) | exact HB.o)))); have n1_ := ze.mk (zK (g := Jj) (o := .cells #[.int .i64 0, .int .i64 0, .int .i64 0, .int .i64 0] 92 (0, 0)) (by (with_reducible repeat (first | refine zg ?_ _ | refine zi ?_ | refine zh ?_ _)); exact Jl.o) hb); have n2_ := ze.mk (zu (by repeat (first | (with_reducible first | exact HB.o | apply zl | apply zf | apply zk | refine zm ?_ Dt.o) | exact HB.o)) hb); clear Jl; clear HB; have Dq := n0_; have Jl := n1_; have HB := n2_; clear n0_ n1_ n2_; (try clear hb); (try clear hb2); (try clear hk); (try clear hi); (try clear ho0); obtain ⟨Ao8, co8, eo8⟩ := Kd.zY Dq.o; subst eo8; have Bz : 0 ≤ ((ji3) : Int) := of_decide_eq_true (by first | (with_reducible assumption) | assumption); have Bt : (ji3) < (t109.length : Int) := of_decide_eq_true (by first | (with_reducible assumption) | assumption); obtain ⟨Jah, e112, BG, BF, BD, BC⟩ := at_T92 (Kd.zQ Dq.o).2.2 (ji3) Bz Bt; cases e112; replace Bz := eq_true Bz; replace Bt := eq_true Bt; have hcz9_0 : w7.cell? ⟨Jj, 0, none⟩ = some (.int .i64 0) := (zb Jl.o 0).trans rfl; have hcz9_1 : w7.cell? ⟨Jj, 1, none⟩ = some (.int .i64 0) := (zb Jl.o 1).trans rfl; have hcz9_2 : w7.cell? ⟨Jj, 2, none⟩ = some (.int .i64 0) := (zb Jl.o 2).trans rfl; have hcz9_3 : w7.cell? ⟨Jj, 3, none⟩ = some (.int .i64 0) := (zb Jl.o 3).trans rfl; have hfz9_0 := za Jl.o 0; have hfz9_1 := za Jl.o 1; have hfz9_2 := za Jl.o 2; have hfz9_3 := za Jl.o 3) | ((with_reducible refine zJ (t := 92) (p := 2) rfl ?_); refine zH (t := 92) (p := 2) (v := ?vo_w10) (w1 := ((((w7.setCell ⟨Jj, 0, none⟩ (.int .i64 ((zn t109 (ji3)).f0))).setCell ⟨Jj, 1, none⟩ (.int .i64 ((zn t109 (ji3)).f1))).setCell ⟨Jj, 2, none⟩ (.int .i64 ((zn t109 (ji3)).f2))).setCell ⟨Jj, 3, none⟩ (.int .i64 ((zn t109 (ji3)).f3)))) ?hg ?ho ?hn ?hr ?_; (case ho => rfl); (case hg => rfl); (case hn => rfl); (case hr => exact zL rfl rfl rfl (zP (P := Try.prog) (o := 0) (cur := #[.int .i64 0, .int .i64 0, .int .i64 0, .int .i64 0]) 92 (.agg #[.int .i64 ((zn t109 (ji3)).f0), .int .i64 ((zn t109 (ji3)).f1), .int .i64 ((zn t109 (ji3)).f2), .int .i64 ((zn t109 (ji3)).f3)]) [.int .i64 ((zn t109 (ji3)).f0), .int .i64 ((zn t109 (ji3)).f1), .int .i64 ((zn t109 (ji3)).f2), .int .i64 ((zn t109 (ji3)).f3)] (show _ = some (Obj.cells #[.int .i64 0, .int .i64 0, .int .i64 0, .int .i64 0] 92 (0, 0)) from (by (with_reducible repeat (first | refine zg ?_ _ | refine zi ?_ | refine zh ?_ _)); exact Jl.o)) rfl (by kernel_rfl) (show 4 ≤ 4 by decide) (by intro q_ hq_; simp only [List.mem_cons, List.not_mem_nil, or_false] at hq_; rcases hq_ with rfl | rfl | rfl | rfl <;> rfl))); intro w10 hw; have n0_ : ze (Kd.R k92 92 w10 w.heap.size (fun k_ => k_ ≠ Jj) (.slice (some Jah) t109.length co8) t109) := ⟨(by rw [hw]; exact (by (with_reducible repeat (first | apply Kd.zz | apply Kd.zA | apply Kd.zF)); exact Kd.zT (Kd.R_far (p := ⟨Jj, 3, none⟩) (Kd.R_far (p := ⟨Jj, 2, none⟩) (Kd.R_far (p := ⟨Jj, 1, none⟩) (Kd.R_far (p := ⟨Jj, 0, none⟩) (Kd.zT Dq.o (fun k_ hk => (⟨hk, hk.2⟩ : _ ∧ k_ ≠ Jj))) (fun _ hk => hk.2) (.int .i64 ((zn t109 (ji3)).f0))) (fun _ hk => hk.2) (.int .i64 ((zn t109 (ji3)).f1))) (fun _ hk => hk.2) (.int .i64 ((zn t109 (ji3)).f2))) (fun _ hk => hk.2) (.int .i64 ((zn t109 (ji3)).f3))) (fun _ hk => hk.1.2)))⟩; have n1_ : ze (w10.heap[Jj]? = some (.cells #[.int .i64 ((zn t109 (ji3)).f0), .int .i64 ((zn t109 (ji3)).f1), .int .i64 ((zn t109 (ji3)).f2), .int .i64 ((zn t109 (ji3)).f3)] 92 (0, 0))) := ⟨(by rw [hw]; exact (by (with_reducible repeat (first | refine zg ?_ _ | refine zi ?_ | refine zh ?_ _)); refine zq (cs := #[.int .i64 ((zn t109 (ji3)).f0), .int .i64 ((zn t109 (ji3)).f1), .int .i64 ((zn t109 (ji3)).f2), .int .i64 0]) ?_ 3 _ rfl; (with_reducible repeat (first | refine zg ?_ _ | refine zi ?_ | refine zh ?_ _)); refine zq (cs := #[.int .i64 ((zn t109 (ji3)).f0), .int .i64 ((zn t109 (ji3)).f1), .int .i64 0, .int .i64 0]) ?_ 2 _ rfl; (with_reducible repeat (first | refine zg ?_ _ | refine zi ?_ | refine zh ?_ _)); refine zq (cs := #[.int .i64 ((zn t109 (ji3)).f0), .int .i64 0, .int .i64 0, .int .i64 0]) ?_ 1 _ rfl; (with_reducible repeat (first | refine zg ?_ _ | refine zi ?_ | refine zh ?_ _)); refine zq (cs := #[.int .i64 0, .int .i64 0, .int .i64 0, .int .i64 0]) ?_ 0 _ rfl; (with_reducible repeat (first | refine zg ?_ _ | refine zi ?_ | refine zh ?_ _)); exact Jl.o))⟩; have n2_ : ze (Below w.heap.size w w10) := ⟨(by rw [hw]; exact (by repeat (first | (with_reducible first | exact HB.o | apply zl | apply zf | apply zk | refine zm ?_ Dt.o) | exact HB.o)))⟩; clear hw; clear Dq; clear Jl; clear HB; have Dq := n0_; have Jl := n1_; have HB := n2_; clear n0_ n1_ n2_))
   refine bodyPost_ret (results_cell_row rfl _ _ Jj 92 #[.int .i64 ((zn t109 (ji3)).f0), .int .i64 ((zn t109 (ji3)).f1), .int .i64 ((zn t109 (ji3)).f2), .int .i64 ((zn t109 (ji3)).f3)] (0, 0) _ rfl (by (with_reducible repeat (first | refine zg ?_ _ | refine zi ?_ | refine zh ?_ _)); exact Jl.o) Try.underlying92 rfl (by kernel_rfl)) rfl ?_
   exact ⟨by first | rfl | (simp [zy, zx] <;> rfl) | (simp only [← DT]; first | rfl | (simp [zy, zx] <;> rfl)) | (simp [*, zy, zx] <;> rfl), by repeat (first | (with_reducible first | exact HB.o | apply zl | apply zf | apply zk | refine zm ?_ Dt.o) | exact HB.o)⟩
  ·rw [if_neg c5] at H
   exact absurd H (by simp)
 ·rw [if_neg c4] at H
  exact absurd H (by simp)

/-! ### plan_Size: function 36 -/
def plan_Size.f (k : Nat)  : Option (Int) := (plan_of.f k 5).bind fun Jy => ((plan_part_end.f Jy.1 Jy.2.1 Jy.2.2.1 Jy.2.2.2).bind fun t117 => (some t117))
theorem plan_Size.mono : ∀ k, LeO (plan_Size.f k ) (plan_Size.f (k + 1) ) := by
 intro  k
 unfold plan_Size.f
 repeat' first
   | (with_reducible exact plan_of.mono _ _)
   | (with_reducible exact LeO.refl _)
   | (with_reducible exact LeO.none _)
   | (with_reducible refine LeO.ite ?_ ?_)
   | (with_reducible refine LeO.bind ?_ (fun _ => ?_))
   | exact plan_of.mono _ _
   | exact LeO.none _
   | refine LeO.ite ?_ ?_
   | refine LeO.bind ?_ (fun _ => ?_)
set_option maxHeartbeats 8000000 in
set_option maxRecDepth 100000 in
theorem plan_Size.calls (k : Nat)  (r : Int) (w : World) (h : plan_Size.f k  = some r) :
  Calls Try.prog 36 #[] w fun e w' => e = .returned (.int .i64 r) ∧ Below w.heap.size w w' := by
 have HB := ze.mk (Below.refl w.heap.size w)
 have H : ((plan_of.f k 5).bind fun Jy => ((plan_part_end.f Jy.1 Jy.2.1 Jy.2.2.1 Jy.2.2.2).bind fun t117 => (some t117))) = some r := h
 clear h
 replace H := Option.bind_eq_some_iff.mp H
 obtain ⟨⟨Bi, Bh, Bg, t116⟩, A10, H⟩ := H
 replace H : ((plan_part_end.f Bi Bh Bg t116).bind fun t117 => (some t117)) = some r := H
 have A1 := ze.mk A10
 clear A10
 replace H := Option.bind_eq_some_iff.mp H
 obtain ⟨t117, A20, H⟩ := H
 replace H : (some t117) = some r := H
 have A2 := ze.mk A20
 clear A20
 obtain rfl := Option.some.inj H
 go_enter Try.func36, Try.ntmps36
 go_wp2_with (first | ((with_reducible refine zM (f := 61) rfl ?_); refine yl (some 1) rfl rfl Try.func61 (by kernel_rfl) rfl #[.int .i64 5] rfl (by (try simp only [List.map_toArray, List.map_cons, List.map_nil]); first | done | rfl | (simp only [List.length_drop, List.length_take]; rfl)) ?_; (with_reducible refine (plan_of.calls k 5 Bi Bh Bg t116 _ A1.o).mono ?_); rintro e w3 ⟨rfl, hb⟩; refine ⟨_, rfl, ?_⟩; have n0_ := ze.mk (zu (by repeat (first | (with_reducible first | exact HB.o | apply zl | apply zf | apply zk) | exact HB.o)) hb); clear HB; have HB := n0_; clear n0_; (try clear hb); (try clear hb2); (try clear hk); (try clear hi)) | ((with_reducible refine zM (f := 62) rfl ?_); refine yl (some 2) rfl rfl Try.func62 (by kernel_rfl) rfl #[.agg #[.int .i64 Bi, .int .i64 Bh, .int .i64 Bg, .int .i64 t116]] rfl (by (try simp only [List.map_toArray, List.map_cons, List.map_nil]); first | done | rfl | (simp only [List.length_drop, List.length_take]; rfl)) ?_; (with_reducible refine (plan_part_end.calls Bi Bh Bg t116 t117 _ A2.o).mono ?_); rintro e w4 ⟨rfl, hb⟩; refine ⟨_, rfl, ?_⟩; have n0_ := ze.mk (zu (by repeat (first | (with_reducible first | exact HB.o | apply zl | apply zf | apply zk) | exact HB.o)) hb); clear HB; have HB := n0_; clear n0_; (try clear hb); (try clear hb2); (try clear hk); (try clear hi)))
 go_ret
 exact ⟨by first | rfl | (simp [zy, zx] <;> rfl) | (simp [*, zy, zx] <;> rfl), by repeat (first | (with_reducible first | exact HB.o | apply zl | apply zf | apply zk) | exact HB.o)⟩

/-! ### plan_Head: function 34 -/
def plan_Head.f (k : Nat)  : Option (List Int) := if 8 ≤ 35184372088832 then ((some (List.replicate 8 0 : List Int)).bind fun Jm => ((plan_Size.f k).bind fun JZ => (if 0 < (Jm.length : Int) then (if 1 < (Jm.length : Int) then (some ((Jm.set (0 : Int).toNat 7021221306412823411).set (1 : Int).toNat (IntKind.u64.wrap (JZ)))) else (none)) else (none)))) else (none)
theorem plan_Head.mono : ∀ k, LeO (plan_Head.f k ) (plan_Head.f (k + 1) ) := by
 intro  k
 unfold plan_Head.f
 repeat' first
   | (with_reducible exact plan_Size.mono _)
   | (with_reducible exact LeO.refl _)
   | (with_reducible exact LeO.none _)
   | (with_reducible refine LeO.ite ?_ ?_)
   | (with_reducible refine LeO.bind ?_ (fun _ => ?_))
   | exact plan_Size.mono _
   | exact LeO.none _
   | refine LeO.ite ?_ ?_
   | refine LeO.bind ?_ (fun _ => ?_)
set_option maxHeartbeats 8000000 in
set_option maxRecDepth 100000 in
theorem plan_Head.calls (k : Nat)  (r : List Int) (w : World) (h : plan_Head.f k  = some r) :
  Calls Try.prog 34 #[] w fun e w' => ∃ v0_ : Value, e = .returned (v0_) ∧ Kd.R (Kd.int .u64) 22 w' w.heap.size (fun _ => True) v0_ r ∧ Below w.heap.size w w' := by
 have HB := ze.mk (Below.refl w.heap.size w)
 have H : (if 8 ≤ 35184372088832 then ((some (List.replicate 8 0 : List Int)).bind fun Jm => ((plan_Size.f k).bind fun JZ => (if 0 < (Jm.length : Int) then (if 1 < (Jm.length : Int) then (some ((Jm.set (0 : Int).toNat 7021221306412823411).set (1 : Int).toNat (IntKind.u64.wrap (JZ)))) else (none)) else (none)))) else (none)) = some r := h
 clear h
 have H1 : ((some (List.replicate 8 0 : List Int)).bind fun Jm => ((plan_Size.f k).bind fun JZ => (if 0 < (Jm.length : Int) then (if 1 < (Jm.length : Int) then (some ((Jm.set (0 : Int).toNat 7021221306412823411).set (1 : Int).toNat (IntKind.u64.wrap (JZ)))) else (none)) else (none)))) = some r := by rw [if_pos (by decide)] at H; exact H
 clear H
 have H := H1
 clear H1
 obtain ⟨Jm, Gd⟩ : ∃ y_ : List Int, y_ = (List.replicate 8 0) := ⟨_, rfl⟩
 replace H : ((plan_Size.f k).bind fun JZ => (if 0 < (Jm.length : Int) then (if 1 < (Jm.length : Int) then (some ((Jm.set (0 : Int).toNat 7021221306412823411).set (1 : Int).toNat (IntKind.u64.wrap (JZ)))) else (none)) else (none))) = some r := by first | (rw [Gd]; with_reducible exact H) | (have H2_ := (Option.bind_some _ _).symm.trans H; rw [Gd]; with_reducible exact H2_) | (have H2_ := (Option.bind_some _ _).symm.trans H; with_reducible exact H2_) | with_reducible exact H | (rw [Gd]; exact H) | exact H
 have Bc := ze.mk Gd
 clear Gd
 replace H := Option.bind_eq_some_iff.mp H
 obtain ⟨JZ, A10, H⟩ := H
 replace H : (if 0 < (Jm.length : Int) then (if 1 < (Jm.length : Int) then (some ((Jm.set (0 : Int).toNat 7021221306412823411).set (1 : Int).toNat (IntKind.u64.wrap (JZ)))) else (none)) else (none)) = some r := H
 have A1 := ze.mk A10
 clear A10
 by_cases c2 : 0 < (Jm.length : Int)
 ·rw [if_pos c2] at H
  have c2b0 : decide (0 < (Jm.length : Int)) = true := decide_eq_true c2
  have c2b1 : decide (0 < Jm.length) = true := decide_eq_true (by omega)
  clear c2
  obtain ⟨Bo, Gc⟩ : ∃ y_ : List Int, y_ = (Jm.set (0 : Int).toNat 7021221306412823411) := ⟨_, rfl⟩
  replace H : (if 1 < (Jm.length : Int) then (some (Bo.set (1 : Int).toNat (IntKind.u64.wrap (JZ)))) else (none)) = some r := by first | (rw [Gc]; with_reducible exact H) | (have H2_ := (Option.bind_some _ _).symm.trans H; rw [Gc]; with_reducible exact H2_) | (have H2_ := (Option.bind_some _ _).symm.trans H; with_reducible exact H2_) | with_reducible exact H | (rw [Gc]; exact H) | exact H
  have Jal := ze.mk Gc
  clear Gc
  by_cases c4 : 1 < (Jm.length : Int)
  ·rw [if_pos c4] at H
   have Jae : decide (1 < (Jm.length : Int)) = true := decide_eq_true c4
   have c4b1 : decide (1 < Jm.length) = true := decide_eq_true (by omega)
   clear c4
   obtain ⟨y123, Gb⟩ : ∃ y_ : List Int, y_ = (Bo.set (1 : Int).toNat (IntKind.u64.wrap (JZ))) := ⟨_, rfl⟩
   replace H : (some y123) = some r := by first | (rw [Gb]; with_reducible exact H) | (have H2_ := (Option.bind_some _ _).symm.trans H; rw [Gb]; with_reducible exact H2_) | (have H2_ := (Option.bind_some _ _).symm.trans H; with_reducible exact H2_) | with_reducible exact H | (rw [Gb]; exact H) | exact H
   have Jak := ze.mk Gb
   clear Gb
   obtain rfl := Option.some.inj H
   go_enter Try.func34, Try.ntmps34
   go_wp2_with (first | ((with_reducible refine zC (N := 2) rfl ?_); refine Kd.Yl (Kd.int .u64) _ 22 rfl (N := 2) rfl 26 _ _ rfl 8 rfl rfl Try.underlying26 (.int .u64 0) 8 Xk rfl (by decide) (by omega) 0 (ok := fun _ => True) (okp := fun _ => True) rfl (fun _ hk => hk) trivial (by omega) (by omega) (Below.refl _ _) (Nat.le_refl _) ?_; intro v119 w6 ho7 hb hg_ hnew_; clear hg_ hnew_; (first | rw [← Bc.o] at ho7 | (simp only [Int.reduceToNat] at ho7; rw [← Bc.o] at ho7)); have n0_ := ze.mk (Kd.yf ho7 (zt (by repeat (first | (with_reducible first | exact HB.o | apply zl | apply zf | apply zk) | exact HB.o)))); have n1_ := ze.mk (zu (by repeat (first | (with_reducible first | exact HB.o | apply zl | apply zf | apply zk) | exact HB.o)) hb); clear HB; have Jn := n0_; have HB := n1_; clear n0_ n1_; clear hb ho7) | ((with_reducible refine zM (f := 36) rfl ?_); refine yl (some 5) rfl rfl Try.func36 (by kernel_rfl) rfl #[] rfl (by (try simp only [List.map_toArray, List.map_cons, List.map_nil]); first | done | rfl | (simp only [List.length_drop, List.length_take]; rfl)) ?_; (with_reducible refine (plan_Size.calls k  JZ _ A1.o).mono ?_); rintro e w8 ⟨rfl, hb⟩; refine ⟨_, rfl, ?_⟩; have n0_ := ze.mk (Kd.zS (by (with_reducible repeat (first | apply Kd.zz | apply Kd.zA | apply Kd.zF)); exact Jn.o) hb); have n1_ := ze.mk (zu (by repeat (first | (with_reducible first | exact HB.o | apply zl | apply zf | apply zk) | exact HB.o)) hb); clear Jn; clear HB; have Jn := n0_; have HB := n1_; clear n0_ n1_; (try clear hb); (try clear hb2); (try clear hk); (try clear hi); have p3 : 0 ≤ (0 : Int) := (by omega); have q3 : (0 : Int) < ((Jm.length : Int) : Int) := of_decide_eq_true (by first | (with_reducible assumption) | assumption); have qi3 : (0 < Jm.length) = True := eq_true (by omega); obtain ⟨go3, co3, eo3, gb3, gl3, cl3, HG3⟩ := Kd.Yr Jn.o (by omega); (first | cases eo3 | (injection eo3 with ea_ en_ ec_; (first | subst ea_ | (injection ea_ with ea_; subst ea_)); subst ec_; clear en_)); have GB3 := ze.mk gb3; have GG3 := ze.mk HG3; clear gb3 gl3 HG3; obtain ⟨DL, DX⟩ := Kd.yc 0 Jn.o (0 : Int) p3 q3; (try rw [show ((0 : Int)).toNat = 0 from rfl] at DL); (try simp only [Nat.reduceMul, Nat.zero_mul, Nat.zero_add, Nat.reduceAdd] at DL); (try rw [show ((0 : Int)).toNat = 0 from rfl] at DX); (try simp only [Nat.reduceMul, Nat.zero_mul, Nat.zero_add, Nat.reduceAdd] at DX); replace p3 := eq_true p3; replace q3 := eq_true q3; obtain ⟨hy9_, hz9_⟩ := Kd.yc 0 Jn.o (0 : Int) (by omega) (of_decide_eq_true (by first | (with_reducible assumption) | assumption)); (try simp only [Int.reduceToNat, Int.toNat_zero, Int.toNat_ofNat, Nat.reduceMul, Nat.zero_mul, Nat.zero_add] at hy9_ hz9_); (try rw [show ((0 : Int)).toNat = 0 from rfl] at hy9_); (try rw [show ((0 : Int)).toNat = 0 from rfl] at hz9_); have HP9 := Kd.Zo Jn.o (0 : Int) 7021221306412823411) | ((with_reducible refine zJ (t := 22) (p := 7) rfl ?_); refine zH (t := 22) (p := 7) (v := ?vo_w10) (w1 := (w8.setCell ⟨go3, (0 : Int).toNat, none⟩ (.int .u64 7021221306412823411))) ?hg ?ho ?hn ?hr ?_; (case ho => rfl); (case hg => rfl); (case hn => rfl); (case hr => first | (go_simp; done) | (go_simp; rfl)); intro w10 hw; have hg : w8.grownBy w10 (some go3) := (by rw [hw]; exact HP9.2); have hp_ : Kd.R (Kd.int .u64) 22 w10 w.heap.size (fun _ => True) (.slice (some ⟨go3, 0, none⟩) Jm.length co3) Bo := (by rw [hw, Jal.o]; exact HP9.1); clear HP9; have n0_ := ze.mk (hp_); have n1_ := ze.mk ((by rw [hw]; exact zm (HB.o) GB3.o : Below w.heap.size w w10)); clear Jn; clear HB; have Jn := n0_; have HB := n1_; clear n0_ n1_; clear hg hw hp_; have p5 : 0 ≤ (1 : Int) := (by omega); have q5 : (1 : Int) < ((Jm.length : Int) : Int) := of_decide_eq_true (by first | (with_reducible assumption) | assumption); have qi5 : (1 < Jm.length) = True := eq_true (by omega); obtain ⟨DK, DW⟩ := Kd.yc 0 Jn.o (1 : Int) p5 q5; (try rw [show ((1 : Int)).toNat = 1 from rfl] at DK); (try simp only [Nat.reduceMul, Nat.zero_mul, Nat.zero_add, Nat.reduceAdd] at DK); (try rw [show ((1 : Int)).toNat = 1 from rfl] at DW); (try simp only [Nat.reduceMul, Nat.zero_mul, Nat.zero_add, Nat.reduceAdd] at DW); replace p5 := eq_true p5; replace q5 := eq_true q5; obtain ⟨hy11_, hz11_⟩ := Kd.yc 0 Jn.o (1 : Int) (by omega) (of_decide_eq_true (by first | (with_reducible assumption) | assumption)); (try simp only [Int.reduceToNat, Int.toNat_zero, Int.toNat_ofNat, Nat.reduceMul, Nat.zero_mul, Nat.zero_add] at hy11_ hz11_); (try rw [show ((1 : Int)).toNat = 1 from rfl] at hy11_); (try rw [show ((1 : Int)).toNat = 1 from rfl] at hz11_); have Jap := Kd.Zo Jn.o (1 : Int) (IntKind.u64.wrap (JZ))) | ((with_reducible refine zJ (t := 22) (p := 8) rfl ?_); refine zH (t := 22) (p := 8) (v := ?vo_w12) (w1 := (w10.setCell ⟨go3, (1 : Int).toNat, none⟩ (.int .u64 (IntKind.u64.wrap (JZ))))) ?hg ?ho ?hn ?hr ?_; (case ho => rfl); (case hg => rfl); (case hn => rfl); (case hr => first | (go_simp; done) | (go_simp; rfl)); intro w12 hw; have hg : w10.grownBy w12 (some go3) := (by rw [hw]; exact Jap.2); have hp_ : Kd.R (Kd.int .u64) 22 w12 w.heap.size (fun _ => True) (.slice (some ⟨go3, 0, none⟩) Jm.length co3) y123 := (by rw [hw, Jak.o]; exact Jap.1); clear Jap; have n0_ := ze.mk (hp_); have n1_ := ze.mk ((by rw [hw]; exact zm (HB.o) GB3.o : Below w.heap.size w w12)); clear Jn; clear HB; have Jn := n0_; have HB := n1_; clear n0_ n1_; clear hg hw hp_))
   go_ret
   exact ⟨_, by first | rfl | (simp [zy, zx] <;> rfl) | (simp [*, zy, zx] <;> rfl), by (with_reducible repeat (first | apply Kd.zz | apply Kd.zA | apply Kd.zF)); exact Jn.o, by repeat (first | (with_reducible first | exact HB.o | apply zl | apply zf | apply zk) | exact HB.o)⟩
  ·rw [if_neg c4] at H
   exact absurd H (by simp)
 ·rw [if_neg c2] at H
  exact absurd H (by simp)

/-! ### escritoirelaw08_image: function 8 -/
def escritoirelaw08_image.l0 : Nat → List (S51) → List Int → Int → Option (List Int)
 | 0, _, _, _ => none
 | k + 1, x0, x3, x4 => if x4 < (x0.length : Int) then (if x4 < 60 then (if 0 ≤ x4 then (if (IntKind.u64.wrap ((x3.length : Int))) = 0 then (none) else (if 0 ≤ (wrap64 (Int.tmod (IntKind.u64.wrap ((yT x0 x4).f0)) (IntKind.u64.wrap ((x3.length : Int))))) then (if (wrap64 (Int.tmod (IntKind.u64.wrap ((yT x0 x4).f0)) (IntKind.u64.wrap ((x3.length : Int))))) < (x3.length : Int) then (escritoirelaw08_image.l0 k x0 (x3.set ((wrap64 (Int.tmod (IntKind.u64.wrap ((yT x0 x4).f0)) (IntKind.u64.wrap ((x3.length : Int))))) : Int).toNat ((yT x0 x4).f1)) (wrap64 (x4 + 1))) else (none)) else (none))) else (none)) else (some x3)) else (some x3)
def escritoirelaw08_image.f (k : Nat) (l0 : List (S51)) : Option (List Int) := if 2824 ≤ 35184372088832 then ((plan_Head.f k).bind fun t127 => (escritoirelaw08_image.l0 k l0 (cpy (List.replicate 2824 0) 0 t127) 0)) else (none)
theorem escritoirelaw08_image.Xj : ∀ k, (∀ y0 y1 y2, LeO (escritoirelaw08_image.l0 k y0 y1 y2) (escritoirelaw08_image.l0 (k + 1) y0 y1 y2))
 | 0 => fun _ _ _ r h => by simp [escritoirelaw08_image.l0] at h
 | k + 1 => by
  have ih0 := escritoirelaw08_image.Xj k
  ·intro y0 y1 y2
   unfold escritoirelaw08_image.l0
   repeat' first
   | (with_reducible exact ih0 _ _ _)
   | (with_reducible exact plan_Head.mono _)
   | (with_reducible exact LeO.refl _)
   | (with_reducible exact LeO.none _)
   | (with_reducible refine LeO.ite ?_ ?_)
   | (with_reducible refine LeO.bind ?_ (fun _ => ?_))
   | exact ih0 _ _ _
   | exact plan_Head.mono _
   | exact LeO.none _
   | refine LeO.ite ?_ ?_
   | refine LeO.bind ?_ (fun _ => ?_)
def escritoirelaw08_image.T6 : Bool × List (List Nat × List Nat) := (true, [([], []), ([], []), ([], []), ([1, 2], [1, 2]), ([3], [3]), ([4], [4]), ([5], [5]), ([], []), ([7], [7]), ([8], [8]), ([6, 9], [6, 9]), ([10], [10]), ([], []), ([], []), ([12, 13], [12, 13]), ([14], [14]), ([15], [15]), ([0, 11, 0, 1, 2, 3, 4, 5, 6, 7, 8, 9, 10, 11, 12, 13, 14, 15, 16], [0, 11]), ([17, 16, 0, 1, 2, 3, 4, 5, 6, 7, 8, 9, 10, 11, 12, 13, 14, 15, 16], [16, 17])])
def escritoirelaw08_image.B6 : List Nat := [0, 0, 0, 6, 14, 30, 62, 0, 128, 384, 1022, 2046, 0, 0, 12288, 28672, 61440, 131071, 262143]
theorem escritoirelaw08_image.tab6 : rtab .any (opsOf Try.f8 6) = escritoirelaw08_image.T6 := by kernel_rfl
theorem escritoirelaw08_image.bits6 : Yb escritoirelaw08_image.T6.2 escritoirelaw08_image.B6 = true := by kernel_rfl
set_option maxHeartbeats 8000000 in
set_option maxRecDepth 100000 in
theorem escritoirelaw08_image.calls (k : Nat) (A0 : Option Addr) (c0 : Nat) (l0 : List (S51)) (r : List Int) (w : World) (hr0 : Kd.C k51 w A0 l0.length l0) (hc0 : l0.length ≤ c0) (h : escritoirelaw08_image.f k l0 = some r) :
  Calls Try.prog 8 #[.slice A0 l0.length c0] w fun e w' => ∃ v0_ : Value, e = .returned (v0_) ∧ Kd.R (Kd.int .u64) 22 w' w.heap.size (fun _ => True) v0_ r ∧ Below w.heap.size w w' := by
 have HR0 := ze.mk hr0
 have HC0 := ze.mk hc0
 clear hr0 hc0
 have HB := ze.mk (Below.refl w.heap.size w)
 have H : (if 2824 ≤ 35184372088832 then ((plan_Head.f k).bind fun t127 => (escritoirelaw08_image.l0 k l0 (cpy (List.replicate 2824 0) 0 t127) 0)) else (none)) = some r := h
 clear h
 have H1 : ((plan_Head.f k).bind fun t127 => (escritoirelaw08_image.l0 k l0 (cpy (List.replicate 2824 0) 0 t127) 0)) = some r := by rw [if_pos (by decide)] at H; exact H
 clear H
 have H := H1
 clear H1
 obtain ⟨Bf, Ga⟩ : ∃ y_ : List Int, y_ = (List.replicate 2824 0) := ⟨_, rfl⟩
 replace H : ((plan_Head.f k).bind fun t127 => (escritoirelaw08_image.l0 k l0 (cpy Bf 0 t127) 0)) = some r := by first | (rw [Ga]; with_reducible exact H) | (have H2_ := (Option.bind_some _ _).symm.trans H; rw [Ga]; with_reducible exact H2_) | (have H2_ := (Option.bind_some _ _).symm.trans H; with_reducible exact H2_) | with_reducible exact H | (rw [Ga]; exact H) | exact H
 have Bb := ze.mk Ga
 clear Ga
 replace H := Option.bind_eq_some_iff.mp H
 obtain ⟨t127, A20, H⟩ := H
 replace H : (escritoirelaw08_image.l0 k l0 (cpy Bf 0 t127) 0) = some r := H
 have A2 := ze.mk A20
 clear A20
 obtain ⟨Bn, J9⟩ : ∃ y_ : List Int, y_ = (cpy Bf 0 t127) := ⟨_, rfl⟩
 replace H : (escritoirelaw08_image.l0 k l0 Bn 0) = some r := by first | (rw [J9]; with_reducible exact H) | (have H2_ := (Option.bind_some _ _).symm.trans H; rw [J9]; with_reducible exact H2_) | (have H2_ := (Option.bind_some _ _).symm.trans H; with_reducible exact H2_) | with_reducible exact H | (rw [J9]; exact H) | exact H
 have Jaj := ze.mk J9
 clear J9
 have H' := ze.mk H
 clear H
 go_enter Try.func8, Try.ntmps8
 go_wp2_with (first | ((with_reducible refine zC (N := 5) rfl ?_); refine Kd.Yl (Kd.int .u64) _ 22 rfl (N := 5) rfl 26 _ _ rfl 2824 rfl rfl Try.underlying26 (.int .u64 0) 8 Xk rfl (by decide) (by omega) 0 (ok := fun _ => True) (okp := fun _ => True) rfl (fun _ hk => hk) trivial (by omega) (by omega) (Below.refl _ _) (Nat.le_refl _) ?_; intro DJ w3 ho4 hb hg_ hnew_; clear hg_ hnew_; (first | rw [← Bb.o] at ho4 | (simp only [Int.reduceToNat] at ho4; rw [← Bb.o] at ho4)); have n0_ := ze.mk (Kd.yf ho4 (zt (by repeat (first | (with_reducible first | exact HB.o | apply zl | apply zf | apply zk) | exact HB.o)))); have n1_ := ze.mk (zu (by repeat (first | (with_reducible first | exact HB.o | apply zl | apply zf | apply zk) | exact HB.o)) hb); clear HB; have Jw := n0_; have HB := n1_; clear n0_ n1_; clear hb ho4) | ((with_reducible refine zM (f := 34) rfl ?_); refine yl (some 7) rfl rfl Try.func34 (by kernel_rfl) rfl #[] rfl (by (try simp only [List.map_toArray, List.map_cons, List.map_nil]); first | done | rfl | (simp only [List.length_drop, List.length_take]; rfl)) ?_; (with_reducible refine (plan_Head.calls k  t127 _ A2.o).mono ?_); rintro e w5 ⟨v128, rfl, ho0, hb⟩; refine ⟨_, rfl, ?_⟩; have n0_ := ze.mk (Kd.R_elder' (by (with_reducible repeat (first | apply Kd.zz | apply Kd.zA | apply Kd.zF)); exact Jw.o) (Kd.R_base ho0) hb); have n1_ := ze.mk (Kd.yf (Kd.R_new' ho0 (Kd.R_lt (by (with_reducible repeat (first | apply Kd.zz | apply Kd.zA | apply Kd.zF)); exact Jw.o))) (zt (by repeat (first | (with_reducible first | exact HB.o | apply zl | apply zf | apply zk) | exact HB.o)))); have n2_ := ze.mk (zu (by repeat (first | (with_reducible first | exact HB.o | apply zl | apply zf | apply zk) | exact HB.o)) hb); clear Jw; clear HB; have Jw := n0_; have Dp := n1_; have HB := n2_; clear n0_ n1_ n2_; (try clear hb); (try clear hb2); (try clear hk); (try clear hi); (try clear ho0); have n_ := ze.mk (Kd.zT (ok' := (fun k_ => some k_ ≠ (v128 : Value).ownBlock)) Jw.o (fun k_ hk => hk.2)); clear Jw; have Jw := n_; clear n_; obtain ⟨Ao8, co8, eo8⟩ := Kd.zY Dp.o; subst eo8) | ((with_reducible refine yt (b := .copy) (xs := #[.tmp 6, .tmp 7]) rfl ?_); skip; refine kd_copy (enc := Value.int .u64) (h1 := fun _ => rfl) (w0 := w) w.heap.size rfl (.tmp 6) (.tmp 7) 26 26 22 rfl Try.underlying26 (by kernel_rfl) DJ Bf t127 _ _ _ (fun k_ => some k_ ≠ (.slice Ao8 t127.length co8 : Value).ownBlock) rfl rfl ?cO ?cR ?cB ?cS ?_; (case cO => exact (by (with_reducible repeat (first | apply Kd.zz | apply Kd.zA | apply Kd.zF)); exact Jw.o)); (case cR => repeat (first | exact (Kd.zQ Dp.o).2.2 | (with_reducible refine Kd.ZW ?_ _) | (with_reducible refine Kd.ZV ?_ _) | (with_reducible refine Kd.YY ?_))); (case cB => exact (by repeat (first | (with_reducible first | exact HB.o | apply zl | apply zf | apply zk) | exact HB.o))); (case cS => exact ((zt (by repeat (first | (with_reducible first | exact HB.o | apply zl | apply zf | apply zk) | exact HB.o))))); intro w6 ho hb hg; skip; rw [← Jaj.o] at ho; replace ho : Kd.R (Kd.int .u64) 22 w6 w.heap.size (fun k_ => some k_ ≠ (.slice Ao8 t127.length co8 : Value).ownBlock) DJ Bn := ho; have n0_ := ze.mk (ho); have n1_ := ze.mk (Kd.R_after (v := DJ) (v1 := DJ) (ok := (fun _ => True)) (by (with_reducible repeat (first | apply Kd.zz | apply Kd.zA | apply Kd.zF)); exact Dp.o) hg (.inl rfl)); have n2_ := ze.mk (hb); clear Jw; clear Dp; clear HB; have Jw := n0_; have Dp := n1_; have HB := n2_; clear n0_ n1_ n2_; clear ho hb hg))
 go_loopg [4] k (fun kq v4 w' => ∃ (JY : List Int) (Jk : Int), v4 = .int .i64 Jk ∧ ze (escritoirelaw08_image.l0 kq l0 JY Jk = some r) ∧ ze (kq ≤ k) ∧ ze (Kd.R (Kd.int .u64) 22 w' w.heap.size (fun _ => True) DJ JY) ∧ ze (Below w.heap.size w w'))
 case atStart => exact ⟨(Bn), (0), (by first | rfl | (simp; done) | (simp [*]; done) | kernel_rfl), H', ⟨Nat.le_refl _⟩, ⟨by (with_reducible repeat (first | apply Kd.zz | apply Kd.zA | apply Kd.zF)); exact Kd.zT Jw.o (fun _ hk => trivial)⟩, ⟨by repeat (first | (with_reducible first | exact HB.o | apply zl | apply zf | apply zk) | exact HB.o)⟩⟩
 case round =>
  clear H'
  try clear p2
  try clear c3
  try clear c8
  obtain ⟨JY, Jk, rfl, HA, HK1, Dr, HB⟩ := hrel
  cases gk with
  | zero => exact absurd HA.o (by simp [escritoirelaw08_image.l0])
  | succ k1 =>
   have H := HA.o
   clear HA
   simp only [escritoirelaw08_image.l0] at H
   by_cases c9 : Jk < (l0.length : Int)
   ·rw [if_pos c9] at H
    have Jac : decide (Jk < (l0.length : Int)) = true := decide_eq_true c9
    clear c9
    by_cases c10 : Jk < 60
    ·rw [if_pos c10] at H
     have DC : decide (Jk < 60) = true := decide_eq_true c10
     clear c10
     by_cases c11 : 0 ≤ Jk
     ·rw [if_pos c11] at H
      have Jaf : decide (0 ≤ Jk) = true := decide_eq_true c11
      clear c11
      by_cases c12 : (IntKind.u64.wrap ((JY.length : Int))) = 0
      ·rw [if_pos c12] at H
       exact absurd H (by simp)
      ·rw [if_neg c12] at H
       have c12b0 : ((IntKind.u64.wrap ((JY.length : Int))) == 0) = false := beq_eq_false_iff_ne.mpr c12
       have c12b1 : ((IntKind.u64.wrap ((JY.length : Int))) != 0) = true := bne_iff_ne.mpr c12
       obtain ⟨J2, Dy⟩ : ∃ j_ : Int, (wrap64 (Int.tmod (IntKind.u64.wrap ((yT l0 Jk).f0)) (IntKind.u64.wrap ((JY.length : Int))))) = j_ := ⟨_, rfl⟩
       replace H : (if 0 ≤ (J2) then (if (J2) < (JY.length : Int) then (escritoirelaw08_image.l0 k1 l0 (JY.set ((J2) : Int).toNat ((yT l0 Jk).f1)) (wrap64 (Jk + 1))) else (none)) else (none)) = some r := by first | (rw [Dy] at H; exact H) | (simp only [Dy] at H ⊢; exact H)
       have hji13w : (IntKind.i64.wrap (Int.tmod (IntKind.u64.wrap ((yT l0 Jk).f0)) (IntKind.u64.wrap ((JY.length : Int))))) = J2 := (i64_w _).trans Dy
       by_cases c14 : 0 ≤ (J2)
       ·rw [if_pos c14] at H
        have c14b0 : decide (0 ≤ (J2)) = true := decide_eq_true c14
        clear c14
        by_cases c15 : (J2) < (JY.length : Int)
        ·rw [if_pos c15] at H
         have c15b0 : decide ((J2) < (JY.length : Int)) = true := decide_eq_true c15
         clear c15
         obtain ⟨y133, J8⟩ : ∃ y_ : List Int, y_ = (JY.set ((J2) : Int).toNat ((yT l0 Jk).f1)) := ⟨_, rfl⟩
         replace H : (escritoirelaw08_image.l0 k1 l0 y133 (wrap64 (Jk + 1))) = some r := by first | (rw [J8]; with_reducible exact H) | (have H2_ := (Option.bind_some _ _).symm.trans H; rw [J8]; with_reducible exact H2_) | (have H2_ := (Option.bind_some _ _).symm.trans H; with_reducible exact H2_) | with_reducible exact H | (rw [J8]; exact H) | exact H
         have Jai := ze.mk J8
         clear J8
         have H' := ze.mk H
         clear H
         try go_wp2
         have n0_ := ze.mk (Kd.zF Dr.o)
         have n1_ := ze.mk (zk HB.o)
         clear Dr
         clear HB
         have Dr := n0_
         have HB := n1_
         clear n0_ n1_
         have Bw : 0 ≤ (Jk : Int) := of_decide_eq_true (by first | (with_reducible assumption) | assumption)
         have Br : Jk < (l0.length : Int) := of_decide_eq_true (by first | (with_reducible assumption) | assumption)
         obtain ⟨JW, e131, Ju, Jt⟩ := at_T51 HR0.o Jk Bw Br
         have Gn := Jt
         have Gp := Ju
         cases e131
         replace Ju := (HB.o.cell (World.block_lt_of_cell? w _ Ju)).trans Ju
         replace Jt := (HB.o.cell (World.block_lt_of_cell? w _ Jt)).trans Jt
         replace Bw := eq_true Bw
         replace Br := eq_true Br
         obtain ⟨Ao18, co18, eo18⟩ := Kd.zY Dr.o
         (first | subst eo18 | (injection eo18 with f1_ f2_ f3_; have f4_ := f1_.symm; have f5_ := f3_.symm; clear f1_ f2_ f3_; subst f4_; subst f5_))
         have Bv : 0 ≤ (Jk : Int) := of_decide_eq_true (by first | (with_reducible assumption) | assumption)
         have Bq : Jk < (l0.length : Int) := of_decide_eq_true (by first | (with_reducible assumption) | assumption)
         obtain ⟨Jag, e132, Js, Jr⟩ := at_T51 HR0.o Jk Bv Bq
         have Gl := Jr
         have Gm := Js
         obtain rfl : JW = Jag := (by injection e132)
         replace Js := (HB.o.cell (World.block_lt_of_cell? w _ Js)).trans Js
         replace Jr := (HB.o.cell (World.block_lt_of_cell? w _ Jr)).trans Jr
         replace Bv := eq_true Bv
         replace Bq := eq_true Bq
         have p16 : 0 ≤ ((J2) : Int) := of_decide_eq_true (by first | (with_reducible assumption) | assumption)
         have q16 : ((J2) : Int) < ((JY.length : Int) : Int) := of_decide_eq_true (by first | (with_reducible assumption) | assumption)
         obtain ⟨go16, co16, eo16, gb16, gl16, cl16, HG16⟩ := Kd.Yr Dr.o (by omega)
         (first | cases eo16 | (injection eo16 with ea_ en_ ec_; (first | subst ea_ | (injection ea_ with ea_; subst ea_)); subst ec_; clear en_))
         have GB16 := ze.mk gb16
         have GG16 := ze.mk HG16
         clear gb16 gl16 HG16
         obtain ⟨DN, DY⟩ := Kd.yc 0 Dr.o ((J2) : Int) p16 q16
         replace p16 := eq_true p16
         replace q16 := eq_true q16
         have Jan := Kd.R_putn Dr.o ((J2) : Int) ((yT l0 Jk).f1)
         rw [← Jai.o] at Jan
         have HQ19 := ze.mk Jan
         clear Jan
         refine YG (n := 19) (S := fun w' => w'.cell? (JW.add ((Jk).toNat * 2)) = some (.int .i64 ((yT l0 Jk).f0)) ∧ w'.cell? ⟨(JW.add ((Jk).toNat * 2)).block, (JW.add ((Jk).toNat * 2)).off + 1, none⟩ = some (.int .u64 ((yT l0 Jk).f1)) ∧ w'.cell? (JW.add ((Jk).toNat * 2)) = some (.int .i64 ((yT l0 Jk).f0)) ∧ w'.cell? ⟨(JW.add ((Jk).toNat * 2)).block, (JW.add ((Jk).toNat * 2)).off + 1, none⟩ = some (.int .u64 ((yT l0 Jk).f1))) (ds := [18]) #[false, false, false, false, false, false, false, false, false, false, false, false, false, false, false, false, false, false, false] (by kernel_rfl) rfl rfl ⟨((HB.o.cell (World.block_lt_of_cell? w _ Gp)).trans Gp), ((HB.o.cell (World.block_lt_of_cell? w _ Gn)).trans Gn), ((HB.o.cell (World.block_lt_of_cell? w _ Gm)).trans Gm), ((HB.o.cell (World.block_lt_of_cell? w _ Gl)).trans Gl)⟩ (fun hHeld => ?_); refine Zt escritoirelaw08_image.tab6 escritoirelaw08_image.bits6 (fun HT_ HW_ => ?_)
         generalize wr.drew = w17 at Dr HB GG16 HQ19 DY Ju Jt Js Jr DN hHeld ⊢
         refine pure_ (i := 0) (N := some 19) (v := ?_) (a' := ?_) #[true, false, false, false, false, false, false, false, false, false, false, false, false, false, false, false, false, false, false] rfl rfl (zO HT_.o (by kernel_rfl)) (fun _ _ _ h => h) (Or.inl ⟨by rfl, ?_⟩) ?_ ?_
         rotate_left
         ·intro w'
          go_simp
          with_reducible rfl
         rotate_left
         ·simp only [Act.put, List.setIfInBounds_toArray, List.set_cons_zero, List.set_cons_succ, i64_w, i32_w]
          rfl
         refine pure_ (i := 1) (N := some 20) (v := ?_) (a' := ?_) #[true, true, false, false, false, false, false, false, false, false, false, false, false, false, false, false, false, false, false] rfl rfl (zO HT_.o (by kernel_rfl)) (fun _ _ _ h => h) (Or.inl ⟨by rfl, ?_⟩) ?_ ?_
         rotate_left
         ·intro w'
          go_simp
          with_reducible rfl
         rotate_left
         ·simp only [Act.put, List.setIfInBounds_toArray, List.set_cons_zero, List.set_cons_succ, i64_w, i32_w]
          rfl
         refine pure_ (i := 2) (N := some 21) (v := ?_) (a' := ?_) #[true, true, true, false, false, false, false, false, false, false, false, false, false, false, false, false, false, false, false] rfl rfl (zO HT_.o (by kernel_rfl)) (fun _ _ _ h => h) (Or.inl ⟨by rfl, ?_⟩) ?_ ?_
         rotate_left
         ·intro w'
          go_simp
          with_reducible rfl
         rotate_left
         ·simp only [Act.put, List.setIfInBounds_toArray, List.set_cons_zero, List.set_cons_succ, i64_w, i32_w]
          rfl
         refine pure_ (i := 3) (N := some 22) (v := ?_) (a' := ?_) #[true, true, true, true, false, false, false, false, false, false, false, false, false, false, false, false, false, false, false] rfl rfl (zO HT_.o (by kernel_rfl)) (fun _ _ _ h => h) (Or.inl ⟨by rfl, ?_⟩) ?_ ?_
         rotate_left
         ·intro w'
          go_simp
          with_reducible rfl
         rotate_left
         ·simp only [Act.put, List.setIfInBounds_toArray, List.set_cons_zero, List.set_cons_succ, i64_w, i32_w]
          rfl
         refine pure_ (i := 4) (N := some 23) (v := ?_) (a' := ?_) #[true, true, true, true, true, false, false, false, false, false, false, false, false, false, false, false, false, false, false] rfl rfl (zO HT_.o (by kernel_rfl)) (fun _ _ _ h => h) (Or.inl ⟨by rfl, ?_⟩) ?_ ?_
         rotate_left
         ·intro w'
          go_simp
          with_reducible rfl
         rotate_left
         ·simp only [Act.put, List.setIfInBounds_toArray, List.set_cons_zero, List.set_cons_succ, i64_w, i32_w]
          rfl
         refine pure_ (i := 7) (N := some 26) (v := ?_) (a' := ?_) #[true, true, true, true, true, false, false, true, false, false, false, false, false, false, false, false, false, false, false] rfl rfl (zO HT_.o (by kernel_rfl)) (fun _ _ _ h => h) (Or.inl ⟨by rfl, ?_⟩) ?_ ?_
         rotate_left
         ·intro w'
          go_simp
          with_reducible rfl
         rotate_left
         ·simp only [Act.put, List.setIfInBounds_toArray, List.set_cons_zero, List.set_cons_succ, i64_w, i32_w]
          rfl
         refine pure_ (i := 8) (N := some 27) (v := ?_) (a' := ?_) #[true, true, true, true, true, false, false, true, true, false, false, false, false, false, false, false, false, false, false] rfl rfl (zO HT_.o (by kernel_rfl)) (fun _ _ _ h => h) (Or.inl ⟨by rfl, ?_⟩) ?_ ?_
         rotate_left
         ·intro w'
          go_simp
          with_reducible rfl
         rotate_left
         ·simp only [Act.put, List.setIfInBounds_toArray, List.set_cons_zero, List.set_cons_succ, i64_w, i32_w]
          rfl
         refine pure_ (i := 9) (N := some 28) (v := ?_) (a' := ?_) #[true, true, true, true, true, false, false, true, true, true, false, false, false, false, false, false, false, false, false] rfl rfl (zO HT_.o (by kernel_rfl)) (fun _ _ _ h => h) (Or.inl ⟨by rfl, ?_⟩) ?_ ?_
         rotate_left
         ·intro w'
          go_simp
          with_reducible rfl
         rotate_left
         ·simp only [Act.put, List.setIfInBounds_toArray, List.set_cons_zero, List.set_cons_succ, i64_w, i32_w]
          rfl
         refine pure_ (i := 12) (N := some 31) (v := ?_) (a' := ?_) #[true, true, true, true, true, false, false, true, true, true, false, false, true, false, false, false, false, false, false] rfl rfl (zO HT_.o (by kernel_rfl)) (fun _ _ _ h => h) (Or.inl ⟨by rfl, ?_⟩) ?_ ?_
         rotate_left
         ·intro w'
          go_simp
          with_reducible rfl
         rotate_left
         ·simp only [Act.put, List.setIfInBounds_toArray, List.set_cons_zero, List.set_cons_succ, i64_w, i32_w]
          rfl
         refine pure_ (i := 13) (N := some 32) (v := ?_) (a' := ?_) #[true, true, true, true, true, false, false, true, true, true, false, false, true, true, false, false, false, false, false] rfl rfl (zO HT_.o (by kernel_rfl)) (fun _ _ _ h => h) (Or.inl ⟨by rfl, ?_⟩) ?_ ?_
         rotate_left
         ·intro w'
          go_simp
          with_reducible rfl
         rotate_left
         ·simp only [Act.put, List.setIfInBounds_toArray, List.set_cons_zero, List.set_cons_succ, i64_w, i32_w]
          rfl
         refine pure_ (i := 14) (N := some 33) (v := ?_) (a' := ?_) #[true, true, true, true, true, false, false, true, true, true, false, false, true, true, true, false, false, false, false] rfl rfl (zO HT_.o (by kernel_rfl)) (fun _ _ _ h => h) (Or.inl ⟨by rfl, ?_⟩) ?_ ?_
         rotate_left
         ·intro w'
          go_simp
          with_reducible rfl
         rotate_left
         ·simp only [Act.put, List.setIfInBounds_toArray, List.set_cons_zero, List.set_cons_succ, i64_w, i32_w]
          rfl
         refine pure_ (i := 15) (N := some 34) (v := ?_) (a' := ?_) #[true, true, true, true, true, false, false, true, true, true, false, false, true, true, true, true, false, false, false] rfl rfl (zO HT_.o (by kernel_rfl)) (fun _ _ _ h => h) (Or.inl ⟨by rfl, ?_⟩) ?_ ?_
         rotate_left
         ·intro w'
          go_simp
          with_reducible rfl
         rotate_left
         ·simp only [Act.put, List.setIfInBounds_toArray, List.set_cons_zero, List.set_cons_succ, i64_w, i32_w]
          rfl
         refine take_ (i := 5) (N := some 24) (v := ?_) (a' := ?_) #[true, true, true, true, true, true, false, true, true, true, false, false, true, true, true, true, false, false, false] rfl rfl (yu HT_.o HW_.o (by kernel_rfl)) (fun _ _ _ h => h) (Or.inl ⟨by rfl, ?_⟩) hHeld ?_ ?_
         rotate_left
         ·rintro w' ⟨s0, s1, s2, s3⟩
          go_simp
          with_reducible rfl
         rotate_left
         ·simp only [Act.put, List.setIfInBounds_toArray, List.set_cons_zero, List.set_cons_succ, i64_w, i32_w]
          rfl
         refine pure_ (i := 6) (N := some 25) (v := ?_) (a' := ?_) #[true, true, true, true, true, true, true, true, true, true, false, false, true, true, true, true, false, false, false] rfl rfl (zO HT_.o (by kernel_rfl)) (fun _ _ _ h => h) (Or.inl ⟨by rfl, ?_⟩) ?_ ?_
         rotate_left
         ·intro w'
          go_simp
          with_reducible rfl
         rotate_left
         ·simp only [Act.put, List.setIfInBounds_toArray, List.set_cons_zero, List.set_cons_succ, i64_w, i32_w]
          rfl
         refine pure_ (i := 10) (N := some 29) (v := ?_) (a' := ?_) #[true, true, true, true, true, true, true, true, true, true, true, false, true, true, true, true, false, false, false] rfl rfl (zO HT_.o (by kernel_rfl)) (fun _ _ _ h => h) (Or.inl ⟨by rfl, ?_⟩) ?_ ?_
         rotate_left
         ·intro w'
          go_simp
          with_reducible rfl
         rotate_left
         ·simp only [Act.put, List.setIfInBounds_toArray, List.set_cons_zero, List.set_cons_succ, i64_w, i32_w]
          rfl
         refine pure_ (i := 11) (N := some 30) (v := ?_) (a' := ?_) #[true, true, true, true, true, true, true, true, true, true, true, true, true, true, true, true, false, false, false] rfl rfl (zO HT_.o (by kernel_rfl)) (fun _ _ _ h => h) (Or.inl ⟨by rfl, ?_⟩) ?_ ?_
         rotate_left
         ·intro w'
          go_simp
          with_reducible rfl
         rotate_left
         ·simp only [Act.put, List.setIfInBounds_toArray, List.set_cons_zero, List.set_cons_succ, i64_w, i32_w]
          rfl
         refine take_ (i := 16) (N := some 35) (v := ?_) (a' := ?_) #[true, true, true, true, true, true, true, true, true, true, true, true, true, true, true, true, true, false, false] rfl rfl (yu HT_.o HW_.o (by kernel_rfl)) (fun _ _ _ h => h) (Or.inl ⟨by rfl, ?_⟩) hHeld ?_ ?_
         rotate_left
         ·rintro w' ⟨s0, s1, s2, s3⟩
          go_simp
          with_reducible rfl
         rotate_left
         ·simp only [Act.put, List.setIfInBounds_toArray, List.set_cons_zero, List.set_cons_succ, i64_w, i32_w]
          rfl
         refine pure_ (i := 17) (N := some 36) (v := ?_) (a' := ?_) #[true, true, true, true, true, true, true, true, true, true, true, true, true, true, true, true, true, true, false] rfl rfl (zO HT_.o (by kernel_rfl)) (fun _ _ _ h => h) (Or.inl ⟨by rfl, ?_⟩) ?_ ?_
         rotate_left
         ·intro w'
          go_simp
          with_reducible rfl
         rotate_left
         ·simp only [Act.put, List.setIfInBounds_toArray, List.set_cons_zero, List.set_cons_succ, i64_w, i32_w]
          rfl
         refine last_ (i := 18) (N := none) #[true, true, true, true, true, true, true, true, true, true, true, true, true, true, true, true, true, true, true] rfl rfl (YS HT_.o (by kernel_rfl)) (by decide) (fun K hK => ?_)
         refine skip_ (w1 := ?_) (by rfl) rfl ?_ ?_
         rotate_left
         ·go_simp
          rfl
         refine hK.out _ _ ?_
         clear hK K
         refine done_ (Yj HT_.o (by kernel_rfl)) ?_
         try go_wp2
         go_roundg k1
         case measure => have := HK1.o; omega
         case rel => exact ⟨(y133), (wrap64 (Jk + 1)), (by first | rfl | (simp; done) | (simp [*]; done) | kernel_rfl), H', ⟨by have := HK1.o; omega⟩, ⟨by (with_reducible repeat (first | apply Kd.zz | apply Kd.zA | apply Kd.zF)); exact HQ19.o⟩, ⟨by repeat (first | (with_reducible first | exact HB.o | apply zl | apply zf | apply zk | refine zm ?_ GB16.o) | exact HB.o)⟩⟩
        ·rw [if_neg c15] at H
         exact absurd H (by simp)
       ·rw [if_neg c14] at H
        exact absurd H (by simp)
     ·rw [if_neg c11] at H
      exact absurd H (by simp)
    ·rw [if_neg c10] at H
     have DC : decide (Jk < 60) = false := decide_eq_false c10
     clear c10
     obtain rfl := Option.some.inj H
     go_wp2
     go_ret
     exact ⟨_, by first | rfl | (simp [zy, zx] <;> rfl) | (simp [*, zy, zx] <;> rfl), by (with_reducible repeat (first | apply Kd.zz | apply Kd.zA | apply Kd.zF)); exact Dr.o, by repeat (first | (with_reducible first | exact HB.o | apply zl | apply zf | apply zk) | exact HB.o)⟩
   ·rw [if_neg c9] at H
    have Jac : decide (Jk < (l0.length : Int)) = false := decide_eq_false c9
    clear c9
    obtain rfl := Option.some.inj H
    go_wp2
    go_ret
    exact ⟨_, by first | rfl | (simp [zy, zx] <;> rfl) | (simp [*, zy, zx] <;> rfl), by (with_reducible repeat (first | apply Kd.zz | apply Kd.zA | apply Kd.zF)); exact Dr.o, by repeat (first | (with_reducible first | exact HB.o | apply zl | apply zf | apply zk) | exact HB.o)⟩

/-! ### plan_first: function 63 -/
def plan_first.f (k : Nat) (a0 : Int) (a1 : Int) : Option (Int × Int) := (plan_of.f k a0).bind fun JV => (if a1 < 0 then (some (0, 1)) else (if a1 ≥ JV.2.2.1 then (some (0, 1)) else (some (wrap64 (JV.2.1 + (wrap64 (a1 * JV.2.2.2))), 0))))
set_option maxHeartbeats 8000000 in
set_option maxRecDepth 100000 in
theorem plan_first.calls (k : Nat) (a0 : Int) (a1 : Int) (r1 : Int) (r2 : Int) (w : World) (h : plan_first.f k a0 a1 = some (r1, r2)) :
  Calls Try.prog 63 #[.int .i64 a0, .int .i64 a1] w fun e w' => e = .returned (.tuple #[.int .i64 r1, .int .i64 r2]) ∧ Below w.heap.size w w' := by
 have Bj := Try.underlying92
 have HB := ze.mk (Below.refl w.heap.size w)
 have H : ((plan_of.f k a0).bind fun JV => (if a1 < 0 then (some (0, 1)) else (if a1 ≥ JV.2.2.1 then (some (0, 1)) else (some (wrap64 (JV.2.1 + (wrap64 (a1 * JV.2.2.2))), 0))))) = some (r1, r2) := h
 clear h
 replace H := Option.bind_eq_some_iff.mp H
 obtain ⟨⟨Jo, Jq, Jp, Jz⟩, A30, H⟩ := H
 replace H : (if a1 < 0 then (some (0, 1)) else (if a1 ≥ Jp then (some (0, 1)) else (some (wrap64 (Jq + (wrap64 (a1 * Jz))), 0)))) = some (r1, r2) := H
 have A3 := ze.mk A30
 clear A30
 by_cases c4 : a1 < 0
 ·rw [if_pos c4] at H
  have Jae : decide (a1 < 0) = true := decide_eq_true c4
  clear c4
  simp only [Option.some.injEq, Prod.mk.injEq] at H
  obtain ⟨rfl, rfl⟩ := H
  go_enter Try.func63, Try.ntmps63
  go_wp2_with (first | ((with_reducible refine zM (f := 61) rfl ?_); refine yl (some 8) rfl rfl Try.func61 (by kernel_rfl) rfl #[.int .i64 a0] rfl (by (try simp only [List.map_toArray, List.map_cons, List.map_nil]); first | done | rfl | (simp only [List.length_drop, List.length_take]; rfl)) ?_; (with_reducible refine (plan_of.calls k a0 Jo Jq Jp Jz _ A3.o).mono ?_); rintro e w5 ⟨rfl, hb⟩; refine ⟨_, rfl, ?_⟩; have n0_ := ze.mk (zu (by repeat (first | (with_reducible first | exact HB.o | apply zl | apply zf | apply zk) | exact HB.o)) hb); clear HB; have HB := n0_; clear n0_; (try clear hb); (try clear hb2); (try clear hk); (try clear hi)) | ((with_reducible refine zC (N := 6) rfl ?_); refine zD ?hg (N := 6) ?hd (cs := #[.int .i64 0, .int .i64 0, .int .i64 0, .int .i64 0]) (t := 92) ?hr ?_; (case hd => rfl); (case hg => rfl); (case hr => first | (go_simp; done) | (go_simp; rfl)); intro Jf hg w6 hbox hb; have n0_ := ze.mk (zu (by repeat (first | (with_reducible first | exact HB.o | apply zl | apply zf | apply zk) | exact HB.o)) hb); have n1_ := ze.mk (hbox); have n2_ := ze.mk ((by rw [hg]; exact (zt (by repeat (first | (with_reducible first | exact HB.o | apply zl | apply zf | apply zk) | exact HB.o))) : w.heap.size ≤ Jf)); have n3_ := ze.mk ((by rw [hg]; exact (zt (by repeat (first | (with_reducible first | exact HB.o | apply zl | apply zf | apply zk) | exact HB.o))) : w.heap.size ≤ Jf)); clear HB; have HB := n0_; have Jd := n1_; have Be := n2_; have JB := n3_; clear n0_ n1_ n2_ n3_; clear hb hbox hg; have hcz7_0 : w6.cell? ⟨Jf, 0, none⟩ = some (.int .i64 0) := (zb Jd.o 0).trans rfl; have hcz7_1 : w6.cell? ⟨Jf, 1, none⟩ = some (.int .i64 0) := (zb Jd.o 1).trans rfl; have hcz7_2 : w6.cell? ⟨Jf, 2, none⟩ = some (.int .i64 0) := (zb Jd.o 2).trans rfl; have hcz7_3 : w6.cell? ⟨Jf, 3, none⟩ = some (.int .i64 0) := (zb Jd.o 3).trans rfl; have hfz7_0 := za Jd.o 0; have hfz7_1 := za Jd.o 1; have hfz7_2 := za Jd.o 2; have hfz7_3 := za Jd.o 3) | ((with_reducible refine zJ (t := 92) (p := 6) rfl ?_); refine zH (t := 92) (p := 6) (v := ?vo_w8) (w1 := ((((w6.setCell ⟨Jf, 0, none⟩ (.int .i64 Jo)).setCell ⟨Jf, 1, none⟩ (.int .i64 Jq)).setCell ⟨Jf, 2, none⟩ (.int .i64 Jp)).setCell ⟨Jf, 3, none⟩ (.int .i64 Jz))) ?hg ?ho ?hn ?hr ?_; (case ho => rfl); (case hg => rfl); (case hn => rfl); (case hr => exact zL rfl rfl rfl (zP (P := Try.prog) (o := 0) (cur := #[.int .i64 0, .int .i64 0, .int .i64 0, .int .i64 0]) 92 (.agg #[.int .i64 Jo, .int .i64 Jq, .int .i64 Jp, .int .i64 Jz]) [.int .i64 Jo, .int .i64 Jq, .int .i64 Jp, .int .i64 Jz] (show _ = some (Obj.cells #[.int .i64 0, .int .i64 0, .int .i64 0, .int .i64 0] 92 (0, 0)) from (by (with_reducible repeat (first | refine zg ?_ _ | refine zi ?_ | refine zh ?_ _)); exact Jd.o)) rfl (by kernel_rfl) (show 4 ≤ 4 by decide) (by intro q_ hq_; simp only [List.mem_cons, List.not_mem_nil, or_false] at hq_; rcases hq_ with rfl | rfl | rfl | rfl <;> rfl))); intro w8 hw; have n0_ : ze (w8.heap[Jf]? = some (.cells #[.int .i64 Jo, .int .i64 Jq, .int .i64 Jp, .int .i64 Jz] 92 (0, 0))) := ⟨(by rw [hw]; exact (by (with_reducible repeat (first | refine zg ?_ _ | refine zi ?_ | refine zh ?_ _)); refine zq (cs := #[.int .i64 Jo, .int .i64 Jq, .int .i64 Jp, .int .i64 0]) ?_ 3 _ rfl; (with_reducible repeat (first | refine zg ?_ _ | refine zi ?_ | refine zh ?_ _)); refine zq (cs := #[.int .i64 Jo, .int .i64 Jq, .int .i64 0, .int .i64 0]) ?_ 2 _ rfl; (with_reducible repeat (first | refine zg ?_ _ | refine zi ?_ | refine zh ?_ _)); refine zq (cs := #[.int .i64 Jo, .int .i64 0, .int .i64 0, .int .i64 0]) ?_ 1 _ rfl; (with_reducible repeat (first | refine zg ?_ _ | refine zi ?_ | refine zh ?_ _)); refine zq (cs := #[.int .i64 0, .int .i64 0, .int .i64 0, .int .i64 0]) ?_ 0 _ rfl; (with_reducible repeat (first | refine zg ?_ _ | refine zi ?_ | refine zh ?_ _)); exact Jd.o))⟩; have n1_ : ze (Below w.heap.size w w8) := ⟨(by rw [hw]; exact (by repeat (first | (with_reducible first | exact HB.o | apply zl | apply zf | apply zk | refine zm ?_ JB.o) | exact HB.o)))⟩; clear hw; clear Jd; clear HB; have Jd := n0_; have HB := n1_; clear n0_ n1_))
  go_ret2
  exact ⟨by first | rfl | (simp [zy, zx] <;> rfl) | (simp [*, zy, zx] <;> rfl), by repeat (first | (with_reducible first | exact HB.o | apply zl | apply zf | apply zk | refine zm ?_ JB.o) | exact HB.o)⟩
 ·rw [if_neg c4] at H
  have Jae : decide (a1 < 0) = false := decide_eq_false c4
  clear c4
  by_cases c9 : a1 ≥ Jp
  ·rw [if_pos c9] at H
   have Jac : decide (Jp ≤ a1) = true := decide_eq_true c9
   clear c9
   simp only [Option.some.injEq, Prod.mk.injEq] at H
   obtain ⟨rfl, rfl⟩ := H
   go_enter Try.func63, Try.ntmps63
   go_wp2_with (first | ((with_reducible refine zM (f := 61) rfl ?_); refine yl (some 8) rfl rfl Try.func61 (by kernel_rfl) rfl #[.int .i64 a0] rfl (by (try simp only [List.map_toArray, List.map_cons, List.map_nil]); first | done | rfl | (simp only [List.length_drop, List.length_take]; rfl)) ?_; (with_reducible refine (plan_of.calls k a0 Jo Jq Jp Jz _ A3.o).mono ?_); rintro e w10 ⟨rfl, hb⟩; refine ⟨_, rfl, ?_⟩; have n0_ := ze.mk (zu (by repeat (first | (with_reducible first | exact HB.o | apply zl | apply zf | apply zk) | exact HB.o)) hb); clear HB; have HB := n0_; clear n0_; (try clear hb); (try clear hb2); (try clear hk); (try clear hi)) | ((with_reducible refine zC (N := 6) rfl ?_); refine zD ?hg (N := 6) ?hd (cs := #[.int .i64 0, .int .i64 0, .int .i64 0, .int .i64 0]) (t := 92) ?hr ?_; (case hd => rfl); (case hg => rfl); (case hr => first | (go_simp; done) | (go_simp; rfl)); intro Jf hg w11 hbox hb; have n0_ := ze.mk (zu (by repeat (first | (with_reducible first | exact HB.o | apply zl | apply zf | apply zk) | exact HB.o)) hb); have n1_ := ze.mk (hbox); have n2_ := ze.mk ((by rw [hg]; exact (zt (by repeat (first | (with_reducible first | exact HB.o | apply zl | apply zf | apply zk) | exact HB.o))) : w.heap.size ≤ Jf)); have n3_ := ze.mk ((by rw [hg]; exact (zt (by repeat (first | (with_reducible first | exact HB.o | apply zl | apply zf | apply zk) | exact HB.o))) : w.heap.size ≤ Jf)); clear HB; have HB := n0_; have Jd := n1_; have Be := n2_; have JB := n3_; clear n0_ n1_ n2_ n3_; clear hb hbox hg; have Jab : w11.cell? ⟨Jf, 0, none⟩ = some (.int .i64 0) := (zb Jd.o 0).trans rfl; have Jaa : w11.cell? ⟨Jf, 1, none⟩ = some (.int .i64 0) := (zb Jd.o 1).trans rfl; have BZ : w11.cell? ⟨Jf, 2, none⟩ = some (.int .i64 0) := (zb Jd.o 2).trans rfl; have BX : w11.cell? ⟨Jf, 3, none⟩ = some (.int .i64 0) := (zb Jd.o 3).trans rfl; have BQ := za Jd.o 0; have BP := za Jd.o 1; have BO := za Jd.o 2; have BM := za Jd.o 3) | ((with_reducible refine zJ (t := 92) (p := 6) rfl ?_); refine zH (t := 92) (p := 6) (v := ?vo_w13) (w1 := ((((w11.setCell ⟨Jf, 0, none⟩ (.int .i64 Jo)).setCell ⟨Jf, 1, none⟩ (.int .i64 Jq)).setCell ⟨Jf, 2, none⟩ (.int .i64 Jp)).setCell ⟨Jf, 3, none⟩ (.int .i64 Jz))) ?hg ?ho ?hn ?hr ?_; (case ho => rfl); (case hg => rfl); (case hn => rfl); (case hr => exact zL rfl rfl rfl (zP (P := Try.prog) (o := 0) (cur := #[.int .i64 0, .int .i64 0, .int .i64 0, .int .i64 0]) 92 (.agg #[.int .i64 Jo, .int .i64 Jq, .int .i64 Jp, .int .i64 Jz]) [.int .i64 Jo, .int .i64 Jq, .int .i64 Jp, .int .i64 Jz] (show _ = some (Obj.cells #[.int .i64 0, .int .i64 0, .int .i64 0, .int .i64 0] 92 (0, 0)) from (by (with_reducible repeat (first | refine zg ?_ _ | refine zi ?_ | refine zh ?_ _)); exact Jd.o)) rfl (by kernel_rfl) (show 4 ≤ 4 by decide) (by intro q_ hq_; simp only [List.mem_cons, List.not_mem_nil, or_false] at hq_; rcases hq_ with rfl | rfl | rfl | rfl <;> rfl))); intro w13 hw; have n0_ : ze (w13.heap[Jf]? = some (.cells #[.int .i64 Jo, .int .i64 Jq, .int .i64 Jp, .int .i64 Jz] 92 (0, 0))) := ⟨(by rw [hw]; exact (by (with_reducible repeat (first | refine zg ?_ _ | refine zi ?_ | refine zh ?_ _)); refine zq (cs := #[.int .i64 Jo, .int .i64 Jq, .int .i64 Jp, .int .i64 0]) ?_ 3 _ rfl; (with_reducible repeat (first | refine zg ?_ _ | refine zi ?_ | refine zh ?_ _)); refine zq (cs := #[.int .i64 Jo, .int .i64 Jq, .int .i64 0, .int .i64 0]) ?_ 2 _ rfl; (with_reducible repeat (first | refine zg ?_ _ | refine zi ?_ | refine zh ?_ _)); refine zq (cs := #[.int .i64 Jo, .int .i64 0, .int .i64 0, .int .i64 0]) ?_ 1 _ rfl; (with_reducible repeat (first | refine zg ?_ _ | refine zi ?_ | refine zh ?_ _)); refine zq (cs := #[.int .i64 0, .int .i64 0, .int .i64 0, .int .i64 0]) ?_ 0 _ rfl; (with_reducible repeat (first | refine zg ?_ _ | refine zi ?_ | refine zh ?_ _)); exact Jd.o))⟩; have n1_ : ze (Below w.heap.size w w13) := ⟨(by rw [hw]; exact (by repeat (first | (with_reducible first | exact HB.o | apply zl | apply zf | apply zk | refine zm ?_ JB.o) | exact HB.o)))⟩; clear hw; clear Jd; clear HB; have Jd := n0_; have HB := n1_; clear n0_ n1_; have BV : w13.cell? ⟨Jf, 0, none⟩ = some (.int .i64 Jo) := (zb Jd.o 0).trans rfl; have BU : w13.cell? ⟨Jf, 1, none⟩ = some (.int .i64 Jq) := (zb Jd.o 1).trans rfl; have BS : w13.cell? ⟨Jf, 2, none⟩ = some (.int .i64 Jp) := (zb Jd.o 2).trans rfl; have BR : w13.cell? ⟨Jf, 3, none⟩ = some (.int .i64 Jz) := (zb Jd.o 3).trans rfl; have BL := za Jd.o 0; have BJ := za Jd.o 1; have BI := za Jd.o 2; have BH := za Jd.o 3))
   go_ret2
   exact ⟨by first | rfl | (simp [zy, zx] <;> rfl) | (simp [*, zy, zx] <;> rfl), by repeat (first | (with_reducible first | exact HB.o | apply zl | apply zf | apply zk | refine zm ?_ JB.o) | exact HB.o)⟩
  ·rw [if_neg c9] at H
   have Jac : decide (Jp ≤ a1) = false := decide_eq_false c9
   clear c9
   simp only [Option.some.injEq, Prod.mk.injEq] at H
   obtain ⟨rfl, rfl⟩ := H
   go_enter Try.func63, Try.ntmps63
   go_wp2_with (first | ((with_reducible refine zM (f := 61) rfl ?_); refine yl (some 8) rfl rfl Try.func61 (by kernel_rfl) rfl #[.int .i64 a0] rfl (by (try simp only [List.map_toArray, List.map_cons, List.map_nil]); first | done | rfl | (simp only [List.length_drop, List.length_take]; rfl)) ?_; (with_reducible refine (plan_of.calls k a0 Jo Jq Jp Jz _ A3.o).mono ?_); rintro e w15 ⟨rfl, hb⟩; refine ⟨_, rfl, ?_⟩; have n0_ := ze.mk (zu (by repeat (first | (with_reducible first | exact HB.o | apply zl | apply zf | apply zk) | exact HB.o)) hb); clear HB; have HB := n0_; clear n0_; (try clear hb); (try clear hb2); (try clear hk); (try clear hi)) | ((with_reducible refine zC (N := 6) rfl ?_); refine zD ?hg (N := 6) ?hd (cs := #[.int .i64 0, .int .i64 0, .int .i64 0, .int .i64 0]) (t := 92) ?hr ?_; (case hd => rfl); (case hg => rfl); (case hr => first | (go_simp; done) | (go_simp; rfl)); intro Jf hg w16 hbox hb; have n0_ := ze.mk (zu (by repeat (first | (with_reducible first | exact HB.o | apply zl | apply zf | apply zk) | exact HB.o)) hb); have n1_ := ze.mk (hbox); have n2_ := ze.mk ((by rw [hg]; exact (zt (by repeat (first | (with_reducible first | exact HB.o | apply zl | apply zf | apply zk) | exact HB.o))) : w.heap.size ≤ Jf)); have n3_ := ze.mk ((by rw [hg]; exact (zt (by repeat (first | (with_reducible first | exact HB.o | apply zl | apply zf | apply zk) | exact HB.o))) : w.heap.size ≤ Jf)); clear HB; have HB := n0_; have Jd := n1_; have Be := n2_; have JB := n3_; clear n0_ n1_ n2_ n3_; clear hb hbox hg; have JU : w16.cell? ⟨Jf, 0, none⟩ = some (.int .i64 0) := (zb Jd.o 0).trans rfl; have JS : w16.cell? ⟨Jf, 1, none⟩ = some (.int .i64 0) := (zb Jd.o 1).trans rfl; have JR : w16.cell? ⟨Jf, 2, none⟩ = some (.int .i64 0) := (zb Jd.o 2).trans rfl; have JQ : w16.cell? ⟨Jf, 3, none⟩ = some (.int .i64 0) := (zb Jd.o 3).trans rfl; have JK := za Jd.o 0; have JJ := za Jd.o 1; have JI := za Jd.o 2; have JH := za Jd.o 3) | ((with_reducible refine zJ (t := 92) (p := 6) rfl ?_); refine zH (t := 92) (p := 6) (v := ?vo_w18) (w1 := ((((w16.setCell ⟨Jf, 0, none⟩ (.int .i64 Jo)).setCell ⟨Jf, 1, none⟩ (.int .i64 Jq)).setCell ⟨Jf, 2, none⟩ (.int .i64 Jp)).setCell ⟨Jf, 3, none⟩ (.int .i64 Jz))) ?hg ?ho ?hn ?hr ?_; (case ho => rfl); (case hg => rfl); (case hn => rfl); (case hr => exact zL rfl rfl rfl (zP (P := Try.prog) (o := 0) (cur := #[.int .i64 0, .int .i64 0, .int .i64 0, .int .i64 0]) 92 (.agg #[.int .i64 Jo, .int .i64 Jq, .int .i64 Jp, .int .i64 Jz]) [.int .i64 Jo, .int .i64 Jq, .int .i64 Jp, .int .i64 Jz] (show _ = some (Obj.cells #[.int .i64 0, .int .i64 0, .int .i64 0, .int .i64 0] 92 (0, 0)) from (by (with_reducible repeat (first | refine zg ?_ _ | refine zi ?_ | refine zh ?_ _)); exact Jd.o)) rfl (by kernel_rfl) (show 4 ≤ 4 by decide) (by intro q_ hq_; simp only [List.mem_cons, List.not_mem_nil, or_false] at hq_; rcases hq_ with rfl | rfl | rfl | rfl <;> rfl))); intro w18 hw; have n0_ : ze (w18.heap[Jf]? = some (.cells #[.int .i64 Jo, .int .i64 Jq, .int .i64 Jp, .int .i64 Jz] 92 (0, 0))) := ⟨(by rw [hw]; exact (by (with_reducible repeat (first | refine zg ?_ _ | refine zi ?_ | refine zh ?_ _)); refine zq (cs := #[.int .i64 Jo, .int .i64 Jq, .int .i64 Jp, .int .i64 0]) ?_ 3 _ rfl; (with_reducible repeat (first | refine zg ?_ _ | refine zi ?_ | refine zh ?_ _)); refine zq (cs := #[.int .i64 Jo, .int .i64 Jq, .int .i64 0, .int .i64 0]) ?_ 2 _ rfl; (with_reducible repeat (first | refine zg ?_ _ | refine zi ?_ | refine zh ?_ _)); refine zq (cs := #[.int .i64 Jo, .int .i64 0, .int .i64 0, .int .i64 0]) ?_ 1 _ rfl; (with_reducible repeat (first | refine zg ?_ _ | refine zi ?_ | refine zh ?_ _)); refine zq (cs := #[.int .i64 0, .int .i64 0, .int .i64 0, .int .i64 0]) ?_ 0 _ rfl; (with_reducible repeat (first | refine zg ?_ _ | refine zi ?_ | refine zh ?_ _)); exact Jd.o))⟩; have n1_ : ze (Below w.heap.size w w18) := ⟨(by rw [hw]; exact (by repeat (first | (with_reducible first | exact HB.o | apply zl | apply zf | apply zk | refine zm ?_ JB.o) | exact HB.o)))⟩; clear hw; clear Jd; clear HB; have Jd := n0_; have HB := n1_; clear n0_ n1_; have JP : w18.cell? ⟨Jf, 0, none⟩ = some (.int .i64 Jo) := (zb Jd.o 0).trans rfl; have JO : w18.cell? ⟨Jf, 1, none⟩ = some (.int .i64 Jq) := (zb Jd.o 1).trans rfl; have JN : w18.cell? ⟨Jf, 2, none⟩ = some (.int .i64 Jp) := (zb Jd.o 2).trans rfl; have JL : w18.cell? ⟨Jf, 3, none⟩ = some (.int .i64 Jz) := (zb Jd.o 3).trans rfl; have JG := za Jd.o 0; have JF := za Jd.o 1; have JE := za Jd.o 2; have JD := za Jd.o 3))
   go_ret2
   exact ⟨by first | rfl | (simp [zy, zx] <;> rfl) | (simp [*, zy, zx] <;> rfl), by repeat (first | (with_reducible first | exact HB.o | apply zl | apply zf | apply zk | refine zm ?_ JB.o) | exact HB.o)⟩

/-! ### plan_Owner: function 37 -/
def plan_Owner.f (k : Nat) (a0 : Int) : Option (Int × Int) := (plan_first.f k 3 a0).bind fun Dn => (some (Dn.1, Dn.2))
set_option maxHeartbeats 8000000 in
set_option maxRecDepth 100000 in
theorem plan_Owner.calls (k : Nat) (a0 : Int) (r1 : Int) (r2 : Int) (w : World) (h : plan_Owner.f k a0 = some (r1, r2)) :
  Calls Try.prog 37 #[.int .i64 a0] w fun e w' => e = .returned (.tuple #[.int .i64 r1, .int .i64 r2]) ∧ Below w.heap.size w w' := by
 have HB := ze.mk (Below.refl w.heap.size w)
 have H : ((plan_first.f k 3 a0).bind fun Dn => (some (Dn.1, Dn.2))) = some (r1, r2) := h
 clear h
 replace H := Option.bind_eq_some_iff.mp H
 obtain ⟨⟨t139, t140⟩, A20, H⟩ := H
 replace H : (some (t139, t140)) = some (r1, r2) := H
 have A2 := ze.mk A20
 clear A20
 simp only [Option.some.injEq, Prod.mk.injEq] at H
 obtain ⟨rfl, rfl⟩ := H
 go_enter Try.func37, Try.ntmps37
 go_wp2_with (first | ((with_reducible refine zM (f := 63) rfl ?_); refine yl (some 5) rfl rfl Try.func63 (by kernel_rfl) rfl #[.int .i64 3, .int .i64 a0] rfl (by (try simp only [List.map_toArray, List.map_cons, List.map_nil]); first | done | rfl | (simp only [List.length_drop, List.length_take]; rfl)) ?_; (with_reducible refine (plan_first.calls k 3 a0 t139 t140 _ A2.o).mono ?_); rintro e w3 ⟨rfl, hb⟩; refine ⟨_, rfl, ?_⟩; have n0_ := ze.mk (zu (by repeat (first | (with_reducible first | exact HB.o | apply zl | apply zf | apply zk) | exact HB.o)) hb); clear HB; have HB := n0_; clear n0_; (try clear hb); (try clear hb2); (try clear hk); (try clear hi)))
 go_ret2
 exact ⟨by first | rfl | (simp [zy, zx] <;> rfl) | (simp [*, zy, zx] <;> rfl), by repeat (first | (with_reducible first | exact HB.o | apply zl | apply zf | apply zk) | exact HB.o)⟩

/-! ### plan_What: function 53 -/
def plan_What.l0 : Nat → Int → List (S92) → Int → Int → Option (Int × Int)
 | 0, _, _, _, _ => none
 | k + 1, x0, x6, x7, x8 => if x8 < x7 then (if 0 ≤ x8 then (if x8 < (x6.length : Int) then (if x0 ≥ ((zn x6 x8).f1) then ((plan_part_end.f ((zn x6 x8).f0) ((zn x6 x8).f1) ((zn x6 x8).f2) ((zn x6 x8).f3)).bind fun t146 => (if x0 < t146 then (if ((zn x6 x8).f3) = 0 then (none) else (some ((zn x6 x8).f0, wrap64 (Int.tdiv (wrap64 (x0 - ((zn x6 x8).f1))) ((zn x6 x8).f3))))) else (plan_What.l0 k x0 x6 x7 (wrap64 (x8 + 1))))) else (plan_What.l0 k x0 x6 x7 (wrap64 (x8 + 1)))) else (none)) else (none)) else (some (0, 0))
def plan_What.f (k : Nat) (a0 : Int) : Option (Int × Int) := (plan_parts.f k).bind fun t141 => (plan_What.l0 k a0 t141 (t141.length : Int) 0)
set_option maxHeartbeats 8000000 in
set_option maxRecDepth 100000 in
theorem plan_What.calls (k : Nat) (a0 : Int) (r1 : Int) (r2 : Int) (w : World) (h : plan_What.f k a0 = some (r1, r2)) :
  Calls Try.prog 53 #[.int .i64 a0] w fun e w' => e = .returned (.tuple #[.int .i64 r1, .int .i64 r2]) ∧ Below w.heap.size w w' := by
 have Bj := Try.underlying92
 have HB := ze.mk (Below.refl w.heap.size w)
 have H : ((plan_parts.f k).bind fun t141 => (plan_What.l0 k a0 t141 (t141.length : Int) 0)) = some (r1, r2) := h
 clear h
 replace H := Option.bind_eq_some_iff.mp H
 obtain ⟨t141, A20, H⟩ := H
 replace H : (plan_What.l0 k a0 t141 (t141.length : Int) 0) = some (r1, r2) := H
 have A2 := ze.mk A20
 clear A20
 have H' := ze.mk H
 clear H
 go_enter Try.func53, Try.ntmps53
 go_wp2_with (first | (go_at_call 69; (with_reducible refine (plan_parts.calls k  t141 _ A2.o).mono ?_); rintro e w3 ⟨v142, rfl, ho0, hb⟩; have n0_ := ze.mk (Kd.yf ho0 (zt (by repeat (first | (with_reducible first | exact HB.o | apply zl | apply zf | apply zk) | exact HB.o)))); have n1_ := ze.mk (zu (by repeat (first | (with_reducible first | exact HB.o | apply zl | apply zf | apply zk) | exact HB.o)) hb); clear HB; have J4 := n0_; have HB := n1_; clear n0_ n1_; (try clear hb); (try clear hb2); (try clear hk); (try clear hi); (try clear ho0); obtain ⟨Ao4, co4, eo4⟩ := Kd.zY J4.o; subst eo4))
 repeat (go_quiet (first | (go_at_call 69; (try simp only [i64_w, i32_w]); (with_reducible refine (plan_parts.calls k  t141 _ A2.o).mono ?_); rintro e w3 ⟨v142, rfl, ho0, hb⟩; have n0_ := ze.mk (Kd.yf ho0 (zt (by repeat (first | (with_reducible first | exact HB.o | apply zl | apply zf | apply zk) | exact HB.o)))); have n1_ := ze.mk (zu (by repeat (first | (with_reducible first | exact HB.o | apply zl | apply zf | apply zk) | exact HB.o)) hb); clear HB; have J4 := n0_; have HB := n1_; clear n0_ n1_; (try clear hb); (try clear hb2); (try clear hk); (try clear hi); (try clear ho0); obtain ⟨Ao4, co4, eo4⟩ := Kd.zY J4.o; subst eo4)); try go_wp2_with (first | (go_at_call 69; (with_reducible refine (plan_parts.calls k  t141 _ A2.o).mono ?_); rintro e w3 ⟨v142, rfl, ho0, hb⟩; have n0_ := ze.mk (Kd.yf ho0 (zt (by repeat (first | (with_reducible first | exact HB.o | apply zl | apply zf | apply zk) | exact HB.o)))); have n1_ := ze.mk (zu (by repeat (first | (with_reducible first | exact HB.o | apply zl | apply zf | apply zk) | exact HB.o)) hb); clear HB; have J4 := n0_; have HB := n1_; clear n0_ n1_; (try clear hb); (try clear hb2); (try clear hk); (try clear hi); (try clear ho0); obtain ⟨Ao4, co4, eo4⟩ := Kd.zY J4.o; subst eo4)))
 go_loopg [8] k (fun kq v8 w' => ∃ (Jc : Int), v8 = .int .i64 Jc ∧ ze (plan_What.l0 kq a0 t141 (t141.length : Int) Jc = some (r1, r2)) ∧ ze (kq ≤ k) ∧ ze (Kd.R k92 92 w' w.heap.size (fun _ => True) (.slice Ao4 t141.length co4) t141) ∧ ze (Below w.heap.size w w'))
 case atStart => exact ⟨(0), (by first | rfl | (simp; done) | (simp [*]; done) | kernel_rfl), H', ⟨Nat.le_refl _⟩, ⟨by (with_reducible repeat (first | apply Kd.zz | apply Kd.zA | apply Kd.zF)); exact J4.o⟩, ⟨by repeat (first | (with_reducible first | exact HB.o | apply zl | apply zf | apply zk) | exact HB.o)⟩⟩
 case round =>
  clear H'
  try clear p2
  obtain ⟨Jc, rfl, HA, HK1, Je, HB⟩ := hrel
  cases gk with
  | zero => exact absurd HA.o (by simp [plan_What.l0])
  | succ k1 =>
   have H := HA.o
   clear HA
   simp only [plan_What.l0] at H
   by_cases c5 : Jc < (t141.length : Int)
   ·rw [if_pos c5] at H
    have Jad : decide (Jc < (t141.length : Int)) = true := decide_eq_true c5
    clear c5
    by_cases c6 : 0 ≤ Jc
    ·rw [if_pos c6] at H
     have c6b0 : decide (0 ≤ Jc) = true := decide_eq_true c6
     clear c6
     by_cases c7 : Jc < (t141.length : Int)
     ·rw [if_pos c7] at H
      have c7b0 : decide (Jc < (t141.length : Int)) = true := decide_eq_true c7
      clear c7
      by_cases c8 : a0 ≥ ((zn t141 Jc).f1)
      ·rw [if_pos c8] at H
       have c8b0 : decide (((zn t141 Jc).f1) ≤ a0) = true := decide_eq_true c8
       clear c8
       replace H := Option.bind_eq_some_iff.mp H
       obtain ⟨t146, A90, H⟩ := H
       replace H : (if a0 < t146 then (if ((zn t141 Jc).f3) = 0 then (none) else (some ((zn t141 Jc).f0, wrap64 (Int.tdiv (wrap64 (a0 - ((zn t141 Jc).f1))) ((zn t141 Jc).f3))))) else (plan_What.l0 k1 a0 t141 (t141.length : Int) (wrap64 (Jc + 1)))) = some (r1, r2) := H
       have A9 := ze.mk A90
       clear A90
       by_cases c10 : a0 < t146
       ·rw [if_pos c10] at H
        have DC : decide (a0 < t146) = true := decide_eq_true c10
        clear c10
        by_cases c11 : ((zn t141 Jc).f3) = 0
        ·rw [if_pos c11] at H
         exact absurd H (by simp)
        ·rw [if_neg c11] at H
         have Jaf : (((zn t141 Jc).f3) == 0) = false := beq_eq_false_iff_ne.mpr c11
         have c11b1 : (((zn t141 Jc).f3) != 0) = true := bne_iff_ne.mpr c11
         simp only [Option.some.injEq, Prod.mk.injEq] at H
         obtain ⟨rfl, rfl⟩ := H
         have J7 : 0 ≤ (Jc : Int) := of_decide_eq_true (by first | (with_reducible assumption) | assumption)
         have J6 : Jc < (t141.length : Int) := of_decide_eq_true (by first | (with_reducible assumption) | assumption)
         obtain ⟨Jv, D7, Gj, Gi, Gh, Gg⟩ := at_T92 (Kd.zQ Je.o).2.2 Jc J7 J6
         cases D7
         replace J7 := eq_true J7
         replace J6 := eq_true J6
         go_wp2_with (first | ((with_reducible refine zC (N := 5) rfl ?_); refine zD ?hg (N := 5) ?hd (cs := #[.int .i64 0, .int .i64 0, .int .i64 0, .int .i64 0]) (t := 92) ?hr ?_; (case hd => rfl); (case hg => rfl); (case hr => first | (go_simp; done) | (go_simp; rfl)); intro Jb hg w12 hbox hb; have n0_ := ze.mk (Kd.zS (Kd.yG (by (with_reducible repeat (first | apply Kd.zz | apply Kd.zA | apply Kd.zF)); exact Je.o) Jb (Nat.le_of_eq hg.symm)) hb); have n1_ := ze.mk (zu (by repeat (first | (with_reducible first | exact HB.o | apply zl | apply zf | apply zk) | exact HB.o)) hb); have n2_ := ze.mk (hbox); have n3_ := ze.mk ((by rw [hg]; exact (zt (by repeat (first | (with_reducible first | exact HB.o | apply zl | apply zf | apply zk) | exact HB.o))) : w.heap.size ≤ Jb)); have n4_ := ze.mk ((by rw [hg]; exact (zt (by repeat (first | (with_reducible first | exact HB.o | apply zl | apply zf | apply zk) | exact HB.o))) : w.heap.size ≤ Jb)); clear Je; clear HB; have Je := n0_; have HB := n1_; have Ja := n2_; have JA := n3_; have Jh := n4_; clear n0_ n1_ n2_ n3_ n4_; clear hb hbox hg; have Dm : w12.cell? ⟨Jb, 0, none⟩ = some (.int .i64 0) := (zb Ja.o 0).trans rfl; have Dl : w12.cell? ⟨Jb, 1, none⟩ = some (.int .i64 0) := (zb Ja.o 1).trans rfl; have Dk : w12.cell? ⟨Jb, 2, none⟩ = some (.int .i64 0) := (zb Ja.o 2).trans rfl; have Dj : w12.cell? ⟨Jb, 3, none⟩ = some (.int .i64 0) := (zb Ja.o 3).trans rfl; have GR := za Ja.o 0; have GQ := za Ja.o 1; have GM := za Ja.o 2; have GL := za Ja.o 3) | ((with_reducible refine zJ (t := 92) (p := 5) rfl ?_); (try (rw [zW w12]; generalize hq_ : World.drewN w12 _ = w12; have n0_ := ze.mk (Kd.R_at hq_ Je.o); have n1_ := ze.mk (yQ hq_ Ja.o); have n2_ := ze.mk (yB hq_ HB.o); clear hq_ Je Ja HB; have Je := n0_; have Ja := n1_; have HB := n2_; clear n0_ n1_ n2_)); refine zH (t := 92) (p := 5) (v := ?vo_w14) (w1 := ((((w12.setCell ⟨Jb, 0, none⟩ (.int .i64 ((zn t141 Jc).f0))).setCell ⟨Jb, 1, none⟩ (.int .i64 ((zn t141 Jc).f1))).setCell ⟨Jb, 2, none⟩ (.int .i64 ((zn t141 Jc).f2))).setCell ⟨Jb, 3, none⟩ (.int .i64 ((zn t141 Jc).f3)))) ?hg ?ho ?hn ?hr ?_; (case ho => rfl); (case hg => rfl); (case hn => rfl); (case hr => exact zL rfl rfl rfl (zP (P := Try.prog) (o := 0) (cur := #[.int .i64 0, .int .i64 0, .int .i64 0, .int .i64 0]) 92 (.agg #[.int .i64 ((zn t141 Jc).f0), .int .i64 ((zn t141 Jc).f1), .int .i64 ((zn t141 Jc).f2), .int .i64 ((zn t141 Jc).f3)]) [.int .i64 ((zn t141 Jc).f0), .int .i64 ((zn t141 Jc).f1), .int .i64 ((zn t141 Jc).f2), .int .i64 ((zn t141 Jc).f3)] (show _ = some (Obj.cells #[.int .i64 0, .int .i64 0, .int .i64 0, .int .i64 0] 92 (0, 0)) from (by (with_reducible repeat (first | refine zg ?_ _ | refine zi ?_ | refine zh ?_ _)); exact Ja.o)) rfl (by kernel_rfl) (show 4 ≤ 4 by decide) (by intro q_ hq_; simp only [List.mem_cons, List.not_mem_nil, or_false] at hq_; rcases hq_ with rfl | rfl | rfl | rfl <;> rfl))); intro w14 hw; have n0_ : ze (Kd.R k92 92 w14 w.heap.size (fun k_ => k_ ≠ Jb) (.slice (some Jv) t141.length co4) t141) := ⟨(by rw [hw]; exact (by (with_reducible repeat (first | apply Kd.zz | apply Kd.zA | apply Kd.zF)); exact Kd.zT (Kd.R_far (p := ⟨Jb, 3, none⟩) (Kd.R_far (p := ⟨Jb, 2, none⟩) (Kd.R_far (p := ⟨Jb, 1, none⟩) (Kd.R_far (p := ⟨Jb, 0, none⟩) (Kd.zT Je.o (fun k_ hk => (⟨hk, hk.2⟩ : _ ∧ k_ ≠ Jb))) (fun _ hk => hk.2) (.int .i64 ((zn t141 Jc).f0))) (fun _ hk => hk.2) (.int .i64 ((zn t141 Jc).f1))) (fun _ hk => hk.2) (.int .i64 ((zn t141 Jc).f2))) (fun _ hk => hk.2) (.int .i64 ((zn t141 Jc).f3))) (fun _ hk => hk.1.2)))⟩; have n1_ : ze (w14.heap[Jb]? = some (.cells #[.int .i64 ((zn t141 Jc).f0), .int .i64 ((zn t141 Jc).f1), .int .i64 ((zn t141 Jc).f2), .int .i64 ((zn t141 Jc).f3)] 92 (0, 0))) := ⟨(by rw [hw]; exact (by (with_reducible repeat (first | refine zg ?_ _ | refine zi ?_ | refine zh ?_ _)); refine zq (cs := #[.int .i64 ((zn t141 Jc).f0), .int .i64 ((zn t141 Jc).f1), .int .i64 ((zn t141 Jc).f2), .int .i64 0]) ?_ 3 _ rfl; (with_reducible repeat (first | refine zg ?_ _ | refine zi ?_ | refine zh ?_ _)); refine zq (cs := #[.int .i64 ((zn t141 Jc).f0), .int .i64 ((zn t141 Jc).f1), .int .i64 0, .int .i64 0]) ?_ 2 _ rfl; (with_reducible repeat (first | refine zg ?_ _ | refine zi ?_ | refine zh ?_ _)); refine zq (cs := #[.int .i64 ((zn t141 Jc).f0), .int .i64 0, .int .i64 0, .int .i64 0]) ?_ 1 _ rfl; (with_reducible repeat (first | refine zg ?_ _ | refine zi ?_ | refine zh ?_ _)); refine zq (cs := #[.int .i64 0, .int .i64 0, .int .i64 0, .int .i64 0]) ?_ 0 _ rfl; (with_reducible repeat (first | refine zg ?_ _ | refine zi ?_ | refine zh ?_ _)); exact Ja.o))⟩; have n2_ : ze (Below w.heap.size w w14) := ⟨(by rw [hw]; exact (by repeat (first | (with_reducible first | exact HB.o | apply zl | apply zf | apply zk | refine zm ?_ Jh.o) | exact HB.o)))⟩; clear hw; clear Je; clear Ja; clear HB; have Je := n0_; have Ja := n1_; have HB := n2_; clear n0_ n1_ n2_; have Di : w14.cell? ⟨Jb, 0, none⟩ = some (.int .i64 ((zn t141 Jc).f0)) := (zb Ja.o 0).trans rfl; have Dh : w14.cell? ⟨Jb, 1, none⟩ = some (.int .i64 ((zn t141 Jc).f1)) := (zb Ja.o 1).trans rfl; have Df : w14.cell? ⟨Jb, 2, none⟩ = some (.int .i64 ((zn t141 Jc).f2)) := (zb Ja.o 2).trans rfl; have De : w14.cell? ⟨Jb, 3, none⟩ = some (.int .i64 ((zn t141 Jc).f3)) := (zb Ja.o 3).trans rfl; have GK := za Ja.o 0; have GJ := za Ja.o 1; have GI := za Ja.o 2; have GH := za Ja.o 3) | (go_at_call 62; (with_reducible refine (plan_part_end.calls ((zn t141 Jc).f0) ((zn t141 Jc).f1) ((zn t141 Jc).f2) ((zn t141 Jc).f3) t146 _ A9.o).mono ?_); rintro e w16 ⟨rfl, hb⟩; have n0_ := ze.mk (Kd.zS (by (with_reducible repeat (first | apply Kd.zz | apply Kd.zA | apply Kd.zF)); exact Je.o) hb); have n1_ := ze.mk (zK (g := Jb) (o := .cells #[.int .i64 ((zn t141 Jc).f0), .int .i64 ((zn t141 Jc).f1), .int .i64 ((zn t141 Jc).f2), .int .i64 ((zn t141 Jc).f3)] 92 (0, 0)) (by (with_reducible repeat (first | refine zg ?_ _ | refine zi ?_ | refine zh ?_ _)); exact Ja.o) hb); have n2_ := ze.mk (zu (by repeat (first | (with_reducible first | exact HB.o | apply zl | apply zf | apply zk | refine zm ?_ Jh.o) | exact HB.o)) hb); clear Je; clear Ja; clear HB; have Je := n0_; have Ja := n1_; have HB := n2_; clear n0_ n1_ n2_; (try clear hb); (try clear hb2); (try clear hk); (try clear hi); have JU : w16.cell? ⟨Jb, 0, none⟩ = some (.int .i64 ((zn t141 Jc).f0)) := (zb Ja.o 0).trans rfl; have JS : w16.cell? ⟨Jb, 1, none⟩ = some (.int .i64 ((zn t141 Jc).f1)) := (zb Ja.o 1).trans rfl; have JR : w16.cell? ⟨Jb, 2, none⟩ = some (.int .i64 ((zn t141 Jc).f2)) := (zb Ja.o 2).trans rfl; have JQ : w16.cell? ⟨Jb, 3, none⟩ = some (.int .i64 ((zn t141 Jc).f3)) := (zb Ja.o 3).trans rfl; have JK := za Ja.o 0; have JJ := za Ja.o 1; have JI := za Ja.o 2; have JH := za Ja.o 3))
         repeat (go_quiet (first | ((with_reducible refine zC (N := 5) rfl ?_); refine zD ?hg (N := 5) ?hd (cs := #[.int .i64 0, .int .i64 0, .int .i64 0, .int .i64 0]) (t := 92) ?hr ?_; (case hd => rfl); (case hg => rfl); (case hr => first | (go_simp; done) | (go_simp; rfl)); intro Jb hg w12 hbox hb; have n0_ := ze.mk (Kd.zS (Kd.yG (by (with_reducible repeat (first | apply Kd.zz | apply Kd.zA | apply Kd.zF)); exact Je.o) Jb (Nat.le_of_eq hg.symm)) hb); have n1_ := ze.mk (zu (by repeat (first | (with_reducible first | exact HB.o | apply zl | apply zf | apply zk) | exact HB.o)) hb); have n2_ := ze.mk (hbox); have n3_ := ze.mk ((by rw [hg]; exact (zt (by repeat (first | (with_reducible first | exact HB.o | apply zl | apply zf | apply zk) | exact HB.o))) : w.heap.size ≤ Jb)); have n4_ := ze.mk ((by rw [hg]; exact (zt (by repeat (first | (with_reducible first | exact HB.o | apply zl | apply zf | apply zk) | exact HB.o))) : w.heap.size ≤ Jb)); clear Je; clear HB; have Je := n0_; have HB := n1_; have Ja := n2_; have JA := n3_; have Jh := n4_; clear n0_ n1_ n2_ n3_ n4_; clear hb hbox hg; have Dm : w12.cell? ⟨Jb, 0, none⟩ = some (.int .i64 0) := (zb Ja.o 0).trans rfl; have Dl : w12.cell? ⟨Jb, 1, none⟩ = some (.int .i64 0) := (zb Ja.o 1).trans rfl; have Dk : w12.cell? ⟨Jb, 2, none⟩ = some (.int .i64 0) := (zb Ja.o 2).trans rfl; have Dj : w12.cell? ⟨Jb, 3, none⟩ = some (.int .i64 0) := (zb Ja.o 3).trans rfl; have GR := za Ja.o 0; have GQ := za Ja.o 1; have GM := za Ja.o 2; have GL := za Ja.o 3) | ((with_reducible refine zJ (t := 92) (p := 5) rfl ?_); (try (rw [zW w12]; generalize hq_ : World.drewN w12 _ = w12; have n0_ := ze.mk (Kd.R_at hq_ Je.o); have n1_ := ze.mk (yQ hq_ Ja.o); have n2_ := ze.mk (yB hq_ HB.o); clear hq_ Je Ja HB; have Je := n0_; have Ja := n1_; have HB := n2_; clear n0_ n1_ n2_)); refine zH (t := 92) (p := 5) (v := ?vo_w14) (w1 := ((((w12.setCell ⟨Jb, 0, none⟩ (.int .i64 ((zn t141 Jc).f0))).setCell ⟨Jb, 1, none⟩ (.int .i64 ((zn t141 Jc).f1))).setCell ⟨Jb, 2, none⟩ (.int .i64 ((zn t141 Jc).f2))).setCell ⟨Jb, 3, none⟩ (.int .i64 ((zn t141 Jc).f3)))) ?hg ?ho ?hn ?hr ?_; (case ho => rfl); (case hg => rfl); (case hn => rfl); (case hr => exact zL rfl rfl rfl (zP (P := Try.prog) (o := 0) (cur := #[.int .i64 0, .int .i64 0, .int .i64 0, .int .i64 0]) 92 (.agg #[.int .i64 ((zn t141 Jc).f0), .int .i64 ((zn t141 Jc).f1), .int .i64 ((zn t141 Jc).f2), .int .i64 ((zn t141 Jc).f3)]) [.int .i64 ((zn t141 Jc).f0), .int .i64 ((zn t141 Jc).f1), .int .i64 ((zn t141 Jc).f2), .int .i64 ((zn t141 Jc).f3)] (show _ = some (Obj.cells #[.int .i64 0, .int .i64 0, .int .i64 0, .int .i64 0] 92 (0, 0)) from (by (with_reducible repeat (first | refine zg ?_ _ | refine zi ?_ | refine zh ?_ _)); exact Ja.o)) rfl (by kernel_rfl) (show 4 ≤ 4 by decide) (by intro q_ hq_; simp only [List.mem_cons, List.not_mem_nil, or_false] at hq_; rcases hq_ with rfl | rfl | rfl | rfl <;> rfl))); intro w14 hw; have n0_ : ze (Kd.R k92 92 w14 w.heap.size (fun k_ => k_ ≠ Jb) (.slice (some Jv) t141.length co4) t141) := ⟨(by rw [hw]; exact (by (with_reducible repeat (first | apply Kd.zz | apply Kd.zA | apply Kd.zF)); exact Kd.zT (Kd.R_far (p := ⟨Jb, 3, none⟩) (Kd.R_far (p := ⟨Jb, 2, none⟩) (Kd.R_far (p := ⟨Jb, 1, none⟩) (Kd.R_far (p := ⟨Jb, 0, none⟩) (Kd.zT Je.o (fun k_ hk => (⟨hk, hk.2⟩ : _ ∧ k_ ≠ Jb))) (fun _ hk => hk.2) (.int .i64 ((zn t141 Jc).f0))) (fun _ hk => hk.2) (.int .i64 ((zn t141 Jc).f1))) (fun _ hk => hk.2) (.int .i64 ((zn t141 Jc).f2))) (fun _ hk => hk.2) (.int .i64 ((zn t141 Jc).f3))) (fun _ hk => hk.1.2)))⟩; have n1_ : ze (w14.heap[Jb]? = some (.cells #[.int .i64 ((zn t141 Jc).f0), .int .i64 ((zn t141 Jc).f1), .int .i64 ((zn t141 Jc).f2), .int .i64 ((zn t141 Jc).f3)] 92 (0, 0))) := ⟨(by rw [hw]; exact (by (with_reducible repeat (first | refine zg ?_ _ | refine zi ?_ | refine zh ?_ _)); refine zq (cs := #[.int .i64 ((zn t141 Jc).f0), .int .i64 ((zn t141 Jc).f1), .int .i64 ((zn t141 Jc).f2), .int .i64 0]) ?_ 3 _ rfl; (with_reducible repeat (first | refine zg ?_ _ | refine zi ?_ | refine zh ?_ _)); refine zq (cs := #[.int .i64 ((zn t141 Jc).f0), .int .i64 ((zn t141 Jc).f1), .int .i64 0, .int .i64 0]) ?_ 2 _ rfl; (with_reducible repeat (first | refine zg ?_ _ | refine zi ?_ | refine zh ?_ _)); refine zq (cs := #[.int .i64 ((zn t141 Jc).f0), .int .i64 0, .int .i64 0, .int .i64 0]) ?_ 1 _ rfl; (with_reducible repeat (first | refine zg ?_ _ | refine zi ?_ | refine zh ?_ _)); refine zq (cs := #[.int .i64 0, .int .i64 0, .int .i64 0, .int .i64 0]) ?_ 0 _ rfl; (with_reducible repeat (first | refine zg ?_ _ | refine zi ?_ | refine zh ?_ _)); exact Ja.o))⟩; have n2_ : ze (Below w.heap.size w w14) := ⟨(by rw [hw]; exact (by repeat (first | (with_reducible first | exact HB.o | apply zl | apply zf | apply zk | refine zm ?_ Jh.o) | exact HB.o)))⟩; clear hw; clear Je; clear Ja; clear HB; have Je := n0_; have Ja := n1_; have HB := n2_; clear n0_ n1_ n2_; have Di : w14.cell? ⟨Jb, 0, none⟩ = some (.int .i64 ((zn t141 Jc).f0)) := (zb Ja.o 0).trans rfl; have Dh : w14.cell? ⟨Jb, 1, none⟩ = some (.int .i64 ((zn t141 Jc).f1)) := (zb Ja.o 1).trans rfl; have Df : w14.cell? ⟨Jb, 2, none⟩ = some (.int .i64 ((zn t141 Jc).f2)) := (zb Ja.o 2).trans rfl; have De : w14.cell? ⟨Jb, 3, none⟩ = some (.int .i64 ((zn t141 Jc).f3)) := (zb Ja.o 3).trans rfl; have GK := za Ja.o 0; have GJ := za Ja.o 1; have GI := za Ja.o 2; have GH := za Ja.o 3) | (go_at_call 62; (try simp only [i64_w, i32_w]); (with_reducible refine (plan_part_end.calls ((zn t141 Jc).f0) ((zn t141 Jc).f1) ((zn t141 Jc).f2) ((zn t141 Jc).f3) t146 _ A9.o).mono ?_); rintro e w16 ⟨rfl, hb⟩; have n0_ := ze.mk (Kd.zS (by (with_reducible repeat (first | apply Kd.zz | apply Kd.zA | apply Kd.zF)); exact Je.o) hb); have n1_ := ze.mk (zK (g := Jb) (o := .cells #[.int .i64 ((zn t141 Jc).f0), .int .i64 ((zn t141 Jc).f1), .int .i64 ((zn t141 Jc).f2), .int .i64 ((zn t141 Jc).f3)] 92 (0, 0)) (by (with_reducible repeat (first | refine zg ?_ _ | refine zi ?_ | refine zh ?_ _)); exact Ja.o) hb); have n2_ := ze.mk (zu (by repeat (first | (with_reducible first | exact HB.o | apply zl | apply zf | apply zk | refine zm ?_ Jh.o) | exact HB.o)) hb); clear Je; clear Ja; clear HB; have Je := n0_; have Ja := n1_; have HB := n2_; clear n0_ n1_ n2_; (try clear hb); (try clear hb2); (try clear hk); (try clear hi); have JU : w16.cell? ⟨Jb, 0, none⟩ = some (.int .i64 ((zn t141 Jc).f0)) := (zb Ja.o 0).trans rfl; have JS : w16.cell? ⟨Jb, 1, none⟩ = some (.int .i64 ((zn t141 Jc).f1)) := (zb Ja.o 1).trans rfl; have JR : w16.cell? ⟨Jb, 2, none⟩ = some (.int .i64 ((zn t141 Jc).f2)) := (zb Ja.o 2).trans rfl; have JQ : w16.cell? ⟨Jb, 3, none⟩ = some (.int .i64 ((zn t141 Jc).f3)) := (zb Ja.o 3).trans rfl; have JK := za Ja.o 0; have JJ := za Ja.o 1; have JI := za Ja.o 2; have JH := za Ja.o 3)); try go_wp2_with (first | ((with_reducible refine zC (N := 5) rfl ?_); refine zD ?hg (N := 5) ?hd (cs := #[.int .i64 0, .int .i64 0, .int .i64 0, .int .i64 0]) (t := 92) ?hr ?_; (case hd => rfl); (case hg => rfl); (case hr => first | (go_simp; done) | (go_simp; rfl)); intro Jb hg w12 hbox hb; have n0_ := ze.mk (Kd.zS (Kd.yG (by (with_reducible repeat (first | apply Kd.zz | apply Kd.zA | apply Kd.zF)); exact Je.o) Jb (Nat.le_of_eq hg.symm)) hb); have n1_ := ze.mk (zu (by repeat (first | (with_reducible first | exact HB.o | apply zl | apply zf | apply zk) | exact HB.o)) hb); have n2_ := ze.mk (hbox); have n3_ := ze.mk ((by rw [hg]; exact (zt (by repeat (first | (with_reducible first | exact HB.o | apply zl | apply zf | apply zk) | exact HB.o))) : w.heap.size ≤ Jb)); have n4_ := ze.mk ((by rw [hg]; exact (zt (by repeat (first | (with_reducible first | exact HB.o | apply zl | apply zf | apply zk) | exact HB.o))) : w.heap.size ≤ Jb)); clear Je; clear HB; have Je := n0_; have HB := n1_; have Ja := n2_; have JA := n3_; have Jh := n4_; clear n0_ n1_ n2_ n3_ n4_; clear hb hbox hg; have Dm : w12.cell? ⟨Jb, 0, none⟩ = some (.int .i64 0) := (zb Ja.o 0).trans rfl; have Dl : w12.cell? ⟨Jb, 1, none⟩ = some (.int .i64 0) := (zb Ja.o 1).trans rfl; have Dk : w12.cell? ⟨Jb, 2, none⟩ = some (.int .i64 0) := (zb Ja.o 2).trans rfl; have Dj : w12.cell? ⟨Jb, 3, none⟩ = some (.int .i64 0) := (zb Ja.o 3).trans rfl; have GR := za Ja.o 0; have GQ := za Ja.o 1; have GM := za Ja.o 2; have GL := za Ja.o 3) | ((with_reducible refine zJ (t := 92) (p := 5) rfl ?_); (try (rw [zW w12]; generalize hq_ : World.drewN w12 _ = w12; have n0_ := ze.mk (Kd.R_at hq_ Je.o); have n1_ := ze.mk (yQ hq_ Ja.o); have n2_ := ze.mk (yB hq_ HB.o); clear hq_ Je Ja HB; have Je := n0_; have Ja := n1_; have HB := n2_; clear n0_ n1_ n2_)); refine zH (t := 92) (p := 5) (v := ?vo_w14) (w1 := ((((w12.setCell ⟨Jb, 0, none⟩ (.int .i64 ((zn t141 Jc).f0))).setCell ⟨Jb, 1, none⟩ (.int .i64 ((zn t141 Jc).f1))).setCell ⟨Jb, 2, none⟩ (.int .i64 ((zn t141 Jc).f2))).setCell ⟨Jb, 3, none⟩ (.int .i64 ((zn t141 Jc).f3)))) ?hg ?ho ?hn ?hr ?_; (case ho => rfl); (case hg => rfl); (case hn => rfl); (case hr => exact zL rfl rfl rfl (zP (P := Try.prog) (o := 0) (cur := #[.int .i64 0, .int .i64 0, .int .i64 0, .int .i64 0]) 92 (.agg #[.int .i64 ((zn t141 Jc).f0), .int .i64 ((zn t141 Jc).f1), .int .i64 ((zn t141 Jc).f2), .int .i64 ((zn t141 Jc).f3)]) [.int .i64 ((zn t141 Jc).f0), .int .i64 ((zn t141 Jc).f1), .int .i64 ((zn t141 Jc).f2), .int .i64 ((zn t141 Jc).f3)] (show _ = some (Obj.cells #[.int .i64 0, .int .i64 0, .int .i64 0, .int .i64 0] 92 (0, 0)) from (by (with_reducible repeat (first | refine zg ?_ _ | refine zi ?_ | refine zh ?_ _)); exact Ja.o)) rfl (by kernel_rfl) (show 4 ≤ 4 by decide) (by intro q_ hq_; simp only [List.mem_cons, List.not_mem_nil, or_false] at hq_; rcases hq_ with rfl | rfl | rfl | rfl <;> rfl))); intro w14 hw; have n0_ : ze (Kd.R k92 92 w14 w.heap.size (fun k_ => k_ ≠ Jb) (.slice (some Jv) t141.length co4) t141) := ⟨(by rw [hw]; exact (by (with_reducible repeat (first | apply Kd.zz | apply Kd.zA | apply Kd.zF)); exact Kd.zT (Kd.R_far (p := ⟨Jb, 3, none⟩) (Kd.R_far (p := ⟨Jb, 2, none⟩) (Kd.R_far (p := ⟨Jb, 1, none⟩) (Kd.R_far (p := ⟨Jb, 0, none⟩) (Kd.zT Je.o (fun k_ hk => (⟨hk, hk.2⟩ : _ ∧ k_ ≠ Jb))) (fun _ hk => hk.2) (.int .i64 ((zn t141 Jc).f0))) (fun _ hk => hk.2) (.int .i64 ((zn t141 Jc).f1))) (fun _ hk => hk.2) (.int .i64 ((zn t141 Jc).f2))) (fun _ hk => hk.2) (.int .i64 ((zn t141 Jc).f3))) (fun _ hk => hk.1.2)))⟩; have n1_ : ze (w14.heap[Jb]? = some (.cells #[.int .i64 ((zn t141 Jc).f0), .int .i64 ((zn t141 Jc).f1), .int .i64 ((zn t141 Jc).f2), .int .i64 ((zn t141 Jc).f3)] 92 (0, 0))) := ⟨(by rw [hw]; exact (by (with_reducible repeat (first | refine zg ?_ _ | refine zi ?_ | refine zh ?_ _)); refine zq (cs := #[.int .i64 ((zn t141 Jc).f0), .int .i64 ((zn t141 Jc).f1), .int .i64 ((zn t141 Jc).f2), .int .i64 0]) ?_ 3 _ rfl; (with_reducible repeat (first | refine zg ?_ _ | refine zi ?_ | refine zh ?_ _)); refine zq (cs := #[.int .i64 ((zn t141 Jc).f0), .int .i64 ((zn t141 Jc).f1), .int .i64 0, .int .i64 0]) ?_ 2 _ rfl; (with_reducible repeat (first | refine zg ?_ _ | refine zi ?_ | refine zh ?_ _)); refine zq (cs := #[.int .i64 ((zn t141 Jc).f0), .int .i64 0, .int .i64 0, .int .i64 0]) ?_ 1 _ rfl; (with_reducible repeat (first | refine zg ?_ _ | refine zi ?_ | refine zh ?_ _)); refine zq (cs := #[.int .i64 0, .int .i64 0, .int .i64 0, .int .i64 0]) ?_ 0 _ rfl; (with_reducible repeat (first | refine zg ?_ _ | refine zi ?_ | refine zh ?_ _)); exact Ja.o))⟩; have n2_ : ze (Below w.heap.size w w14) := ⟨(by rw [hw]; exact (by repeat (first | (with_reducible first | exact HB.o | apply zl | apply zf | apply zk | refine zm ?_ Jh.o) | exact HB.o)))⟩; clear hw; clear Je; clear Ja; clear HB; have Je := n0_; have Ja := n1_; have HB := n2_; clear n0_ n1_ n2_; have Di : w14.cell? ⟨Jb, 0, none⟩ = some (.int .i64 ((zn t141 Jc).f0)) := (zb Ja.o 0).trans rfl; have Dh : w14.cell? ⟨Jb, 1, none⟩ = some (.int .i64 ((zn t141 Jc).f1)) := (zb Ja.o 1).trans rfl; have Df : w14.cell? ⟨Jb, 2, none⟩ = some (.int .i64 ((zn t141 Jc).f2)) := (zb Ja.o 2).trans rfl; have De : w14.cell? ⟨Jb, 3, none⟩ = some (.int .i64 ((zn t141 Jc).f3)) := (zb Ja.o 3).trans rfl; have GK := za Ja.o 0; have GJ := za Ja.o 1; have GI := za Ja.o 2; have GH := za Ja.o 3) | (go_at_call 62; (with_reducible refine (plan_part_end.calls ((zn t141 Jc).f0) ((zn t141 Jc).f1) ((zn t141 Jc).f2) ((zn t141 Jc).f3) t146 _ A9.o).mono ?_); rintro e w16 ⟨rfl, hb⟩; have n0_ := ze.mk (Kd.zS (by (with_reducible repeat (first | apply Kd.zz | apply Kd.zA | apply Kd.zF)); exact Je.o) hb); have n1_ := ze.mk (zK (g := Jb) (o := .cells #[.int .i64 ((zn t141 Jc).f0), .int .i64 ((zn t141 Jc).f1), .int .i64 ((zn t141 Jc).f2), .int .i64 ((zn t141 Jc).f3)] 92 (0, 0)) (by (with_reducible repeat (first | refine zg ?_ _ | refine zi ?_ | refine zh ?_ _)); exact Ja.o) hb); have n2_ := ze.mk (zu (by repeat (first | (with_reducible first | exact HB.o | apply zl | apply zf | apply zk | refine zm ?_ Jh.o) | exact HB.o)) hb); clear Je; clear Ja; clear HB; have Je := n0_; have Ja := n1_; have HB := n2_; clear n0_ n1_ n2_; (try clear hb); (try clear hb2); (try clear hk); (try clear hi); have JU : w16.cell? ⟨Jb, 0, none⟩ = some (.int .i64 ((zn t141 Jc).f0)) := (zb Ja.o 0).trans rfl; have JS : w16.cell? ⟨Jb, 1, none⟩ = some (.int .i64 ((zn t141 Jc).f1)) := (zb Ja.o 1).trans rfl; have JR : w16.cell? ⟨Jb, 2, none⟩ = some (.int .i64 ((zn t141 Jc).f2)) := (zb Ja.o 2).trans rfl; have JQ : w16.cell? ⟨Jb, 3, none⟩ = some (.int .i64 ((zn t141 Jc).f3)) := (zb Ja.o 3).trans rfl; have JK := za Ja.o 0; have JJ := za Ja.o 1; have JI := za Ja.o 2; have JH := za Ja.o 3)))
         go_ret2
         exact ⟨by first | rfl | (simp [zy, zx] <;> rfl) | (simp [*, zy, zx] <;> rfl), by repeat (first | (with_reducible first | exact HB.o | apply zl | apply zf | apply zk | refine zm ?_ Jh.o) | exact HB.o)⟩
       ·rw [if_neg c10] at H
        have DC : decide (a0 < t146) = false := decide_eq_false c10
        clear c10
        have H' := ze.mk H
        clear H
        have J7 : 0 ≤ (Jc : Int) := of_decide_eq_true (by first | (with_reducible assumption) | assumption)
        have J6 : Jc < (t141.length : Int) := of_decide_eq_true (by first | (with_reducible assumption) | assumption)
        obtain ⟨Jv, D7, Gj, Gi, Gh, Gg⟩ := at_T92 (Kd.zQ Je.o).2.2 Jc J7 J6
        cases D7
        replace J7 := eq_true J7
        replace J6 := eq_true J6
        go_wp2_with (first | ((with_reducible refine zC (N := 5) rfl ?_); refine zD ?hg (N := 5) ?hd (cs := #[.int .i64 0, .int .i64 0, .int .i64 0, .int .i64 0]) (t := 92) ?hr ?_; (case hd => rfl); (case hg => rfl); (case hr => first | (go_simp; done) | (go_simp; rfl)); intro Jb hg w18 hbox hb; have n0_ := ze.mk (Kd.zS (Kd.yG (by (with_reducible repeat (first | apply Kd.zz | apply Kd.zA | apply Kd.zF)); exact Je.o) Jb (Nat.le_of_eq hg.symm)) hb); have n1_ := ze.mk (zu (by repeat (first | (with_reducible first | exact HB.o | apply zl | apply zf | apply zk) | exact HB.o)) hb); have n2_ := ze.mk (hbox); have n3_ := ze.mk ((by rw [hg]; exact (zt (by repeat (first | (with_reducible first | exact HB.o | apply zl | apply zf | apply zk) | exact HB.o))) : w.heap.size ≤ Jb)); have n4_ := ze.mk ((by rw [hg]; exact (zt (by repeat (first | (with_reducible first | exact HB.o | apply zl | apply zf | apply zk) | exact HB.o))) : w.heap.size ≤ Jb)); clear Je; clear HB; have Je := n0_; have HB := n1_; have Ja := n2_; have JA := n3_; have Jh := n4_; clear n0_ n1_ n2_ n3_ n4_; clear hb hbox hg; have JP : w18.cell? ⟨Jb, 0, none⟩ = some (.int .i64 0) := (zb Ja.o 0).trans rfl; have JO : w18.cell? ⟨Jb, 1, none⟩ = some (.int .i64 0) := (zb Ja.o 1).trans rfl; have JN : w18.cell? ⟨Jb, 2, none⟩ = some (.int .i64 0) := (zb Ja.o 2).trans rfl; have JL : w18.cell? ⟨Jb, 3, none⟩ = some (.int .i64 0) := (zb Ja.o 3).trans rfl; have JG := za Ja.o 0; have JF := za Ja.o 1; have JE := za Ja.o 2; have JD := za Ja.o 3) | ((with_reducible refine zJ (t := 92) (p := 5) rfl ?_); (try (rw [zW w18]; generalize hq_ : World.drewN w18 _ = w18; have n0_ := ze.mk (Kd.R_at hq_ Je.o); have n1_ := ze.mk (yQ hq_ Ja.o); have n2_ := ze.mk (yB hq_ HB.o); clear hq_ Je Ja HB; have Je := n0_; have Ja := n1_; have HB := n2_; clear n0_ n1_ n2_)); refine zH (t := 92) (p := 5) (v := ?vo_w20) (w1 := ((((w18.setCell ⟨Jb, 0, none⟩ (.int .i64 ((zn t141 Jc).f0))).setCell ⟨Jb, 1, none⟩ (.int .i64 ((zn t141 Jc).f1))).setCell ⟨Jb, 2, none⟩ (.int .i64 ((zn t141 Jc).f2))).setCell ⟨Jb, 3, none⟩ (.int .i64 ((zn t141 Jc).f3)))) ?hg ?ho ?hn ?hr ?_; (case ho => rfl); (case hg => rfl); (case hn => rfl); (case hr => exact zL rfl rfl rfl (zP (P := Try.prog) (o := 0) (cur := #[.int .i64 0, .int .i64 0, .int .i64 0, .int .i64 0]) 92 (.agg #[.int .i64 ((zn t141 Jc).f0), .int .i64 ((zn t141 Jc).f1), .int .i64 ((zn t141 Jc).f2), .int .i64 ((zn t141 Jc).f3)]) [.int .i64 ((zn t141 Jc).f0), .int .i64 ((zn t141 Jc).f1), .int .i64 ((zn t141 Jc).f2), .int .i64 ((zn t141 Jc).f3)] (show _ = some (Obj.cells #[.int .i64 0, .int .i64 0, .int .i64 0, .int .i64 0] 92 (0, 0)) from (by (with_reducible repeat (first | refine zg ?_ _ | refine zi ?_ | refine zh ?_ _)); exact Ja.o)) rfl (by kernel_rfl) (show 4 ≤ 4 by decide) (by intro q_ hq_; simp only [List.mem_cons, List.not_mem_nil, or_false] at hq_; rcases hq_ with rfl | rfl | rfl | rfl <;> rfl))); intro w20 hw; have n0_ : ze (Kd.R k92 92 w20 w.heap.size (fun k_ => k_ ≠ Jb) (.slice (some Jv) t141.length co4) t141) := ⟨(by rw [hw]; exact (by (with_reducible repeat (first | apply Kd.zz | apply Kd.zA | apply Kd.zF)); exact Kd.zT (Kd.R_far (p := ⟨Jb, 3, none⟩) (Kd.R_far (p := ⟨Jb, 2, none⟩) (Kd.R_far (p := ⟨Jb, 1, none⟩) (Kd.R_far (p := ⟨Jb, 0, none⟩) (Kd.zT Je.o (fun k_ hk => (⟨hk, hk.2⟩ : _ ∧ k_ ≠ Jb))) (fun _ hk => hk.2) (.int .i64 ((zn t141 Jc).f0))) (fun _ hk => hk.2) (.int .i64 ((zn t141 Jc).f1))) (fun _ hk => hk.2) (.int .i64 ((zn t141 Jc).f2))) (fun _ hk => hk.2) (.int .i64 ((zn t141 Jc).f3))) (fun _ hk => hk.1.2)))⟩; have n1_ : ze (w20.heap[Jb]? = some (.cells #[.int .i64 ((zn t141 Jc).f0), .int .i64 ((zn t141 Jc).f1), .int .i64 ((zn t141 Jc).f2), .int .i64 ((zn t141 Jc).f3)] 92 (0, 0))) := ⟨(by rw [hw]; exact (by (with_reducible repeat (first | refine zg ?_ _ | refine zi ?_ | refine zh ?_ _)); refine zq (cs := #[.int .i64 ((zn t141 Jc).f0), .int .i64 ((zn t141 Jc).f1), .int .i64 ((zn t141 Jc).f2), .int .i64 0]) ?_ 3 _ rfl; (with_reducible repeat (first | refine zg ?_ _ | refine zi ?_ | refine zh ?_ _)); refine zq (cs := #[.int .i64 ((zn t141 Jc).f0), .int .i64 ((zn t141 Jc).f1), .int .i64 0, .int .i64 0]) ?_ 2 _ rfl; (with_reducible repeat (first | refine zg ?_ _ | refine zi ?_ | refine zh ?_ _)); refine zq (cs := #[.int .i64 ((zn t141 Jc).f0), .int .i64 0, .int .i64 0, .int .i64 0]) ?_ 1 _ rfl; (with_reducible repeat (first | refine zg ?_ _ | refine zi ?_ | refine zh ?_ _)); refine zq (cs := #[.int .i64 0, .int .i64 0, .int .i64 0, .int .i64 0]) ?_ 0 _ rfl; (with_reducible repeat (first | refine zg ?_ _ | refine zi ?_ | refine zh ?_ _)); exact Ja.o))⟩; have n2_ : ze (Below w.heap.size w w20) := ⟨(by rw [hw]; exact (by repeat (first | (with_reducible first | exact HB.o | apply zl | apply zf | apply zk | refine zm ?_ Jh.o) | exact HB.o)))⟩; clear hw; clear Je; clear Ja; clear HB; have Je := n0_; have Ja := n1_; have HB := n2_; clear n0_ n1_ n2_; have Dc : w20.cell? ⟨Jb, 0, none⟩ = some (.int .i64 ((zn t141 Jc).f0)) := (zb Ja.o 0).trans rfl; have Db : w20.cell? ⟨Jb, 1, none⟩ = some (.int .i64 ((zn t141 Jc).f1)) := (zb Ja.o 1).trans rfl; have Da : w20.cell? ⟨Jb, 2, none⟩ = some (.int .i64 ((zn t141 Jc).f2)) := (zb Ja.o 2).trans rfl; have G9 : w20.cell? ⟨Jb, 3, none⟩ = some (.int .i64 ((zn t141 Jc).f3)) := (zb Ja.o 3).trans rfl; have GG := za Ja.o 0; have GD := za Ja.o 1; have Gz := za Ja.o 2; have Gy := za Ja.o 3) | (go_at_call 62; (with_reducible refine (plan_part_end.calls ((zn t141 Jc).f0) ((zn t141 Jc).f1) ((zn t141 Jc).f2) ((zn t141 Jc).f3) t146 _ A9.o).mono ?_); rintro e w22 ⟨rfl, hb⟩; have n0_ := ze.mk (Kd.zS (by (with_reducible repeat (first | apply Kd.zz | apply Kd.zA | apply Kd.zF)); exact Je.o) hb); have n1_ := ze.mk (zK (g := Jb) (o := .cells #[.int .i64 ((zn t141 Jc).f0), .int .i64 ((zn t141 Jc).f1), .int .i64 ((zn t141 Jc).f2), .int .i64 ((zn t141 Jc).f3)] 92 (0, 0)) (by (with_reducible repeat (first | refine zg ?_ _ | refine zi ?_ | refine zh ?_ _)); exact Ja.o) hb); have n2_ := ze.mk (zu (by repeat (first | (with_reducible first | exact HB.o | apply zl | apply zf | apply zk | refine zm ?_ Jh.o) | exact HB.o)) hb); clear Je; clear Ja; clear HB; have Je := n0_; have Ja := n1_; have HB := n2_; clear n0_ n1_ n2_; (try clear hb); (try clear hb2); (try clear hk); (try clear hi)))
        repeat (go_quiet (first | ((with_reducible refine zC (N := 5) rfl ?_); refine zD ?hg (N := 5) ?hd (cs := #[.int .i64 0, .int .i64 0, .int .i64 0, .int .i64 0]) (t := 92) ?hr ?_; (case hd => rfl); (case hg => rfl); (case hr => first | (go_simp; done) | (go_simp; rfl)); intro Jb hg w18 hbox hb; have n0_ := ze.mk (Kd.zS (Kd.yG (by (with_reducible repeat (first | apply Kd.zz | apply Kd.zA | apply Kd.zF)); exact Je.o) Jb (Nat.le_of_eq hg.symm)) hb); have n1_ := ze.mk (zu (by repeat (first | (with_reducible first | exact HB.o | apply zl | apply zf | apply zk) | exact HB.o)) hb); have n2_ := ze.mk (hbox); have n3_ := ze.mk ((by rw [hg]; exact (zt (by repeat (first | (with_reducible first | exact HB.o | apply zl | apply zf | apply zk) | exact HB.o))) : w.heap.size ≤ Jb)); have n4_ := ze.mk ((by rw [hg]; exact (zt (by repeat (first | (with_reducible first | exact HB.o | apply zl | apply zf | apply zk) | exact HB.o))) : w.heap.size ≤ Jb)); clear Je; clear HB; have Je := n0_; have HB := n1_; have Ja := n2_; have JA := n3_; have Jh := n4_; clear n0_ n1_ n2_ n3_ n4_; clear hb hbox hg; have JP : w18.cell? ⟨Jb, 0, none⟩ = some (.int .i64 0) := (zb Ja.o 0).trans rfl; have JO : w18.cell? ⟨Jb, 1, none⟩ = some (.int .i64 0) := (zb Ja.o 1).trans rfl; have JN : w18.cell? ⟨Jb, 2, none⟩ = some (.int .i64 0) := (zb Ja.o 2).trans rfl; have JL : w18.cell? ⟨Jb, 3, none⟩ = some (.int .i64 0) := (zb Ja.o 3).trans rfl; have JG := za Ja.o 0; have JF := za Ja.o 1; have JE := za Ja.o 2; have JD := za Ja.o 3) | ((with_reducible refine zJ (t := 92) (p := 5) rfl ?_); (try (rw [zW w18]; generalize hq_ : World.drewN w18 _ = w18; have n0_ := ze.mk (Kd.R_at hq_ Je.o); have n1_ := ze.mk (yQ hq_ Ja.o); have n2_ := ze.mk (yB hq_ HB.o); clear hq_ Je Ja HB; have Je := n0_; have Ja := n1_; have HB := n2_; clear n0_ n1_ n2_)); refine zH (t := 92) (p := 5) (v := ?vo_w20) (w1 := ((((w18.setCell ⟨Jb, 0, none⟩ (.int .i64 ((zn t141 Jc).f0))).setCell ⟨Jb, 1, none⟩ (.int .i64 ((zn t141 Jc).f1))).setCell ⟨Jb, 2, none⟩ (.int .i64 ((zn t141 Jc).f2))).setCell ⟨Jb, 3, none⟩ (.int .i64 ((zn t141 Jc).f3)))) ?hg ?ho ?hn ?hr ?_; (case ho => rfl); (case hg => rfl); (case hn => rfl); (case hr => exact zL rfl rfl rfl (zP (P := Try.prog) (o := 0) (cur := #[.int .i64 0, .int .i64 0, .int .i64 0, .int .i64 0]) 92 (.agg #[.int .i64 ((zn t141 Jc).f0), .int .i64 ((zn t141 Jc).f1), .int .i64 ((zn t141 Jc).f2), .int .i64 ((zn t141 Jc).f3)]) [.int .i64 ((zn t141 Jc).f0), .int .i64 ((zn t141 Jc).f1), .int .i64 ((zn t141 Jc).f2), .int .i64 ((zn t141 Jc).f3)] (show _ = some (Obj.cells #[.int .i64 0, .int .i64 0, .int .i64 0, .int .i64 0] 92 (0, 0)) from (by (with_reducible repeat (first | refine zg ?_ _ | refine zi ?_ | refine zh ?_ _)); exact Ja.o)) rfl (by kernel_rfl) (show 4 ≤ 4 by decide) (by intro q_ hq_; simp only [List.mem_cons, List.not_mem_nil, or_false] at hq_; rcases hq_ with rfl | rfl | rfl | rfl <;> rfl))); intro w20 hw; have n0_ : ze (Kd.R k92 92 w20 w.heap.size (fun k_ => k_ ≠ Jb) (.slice (some Jv) t141.length co4) t141) := ⟨(by rw [hw]; exact (by (with_reducible repeat (first | apply Kd.zz | apply Kd.zA | apply Kd.zF)); exact Kd.zT (Kd.R_far (p := ⟨Jb, 3, none⟩) (Kd.R_far (p := ⟨Jb, 2, none⟩) (Kd.R_far (p := ⟨Jb, 1, none⟩) (Kd.R_far (p := ⟨Jb, 0, none⟩) (Kd.zT Je.o (fun k_ hk => (⟨hk, hk.2⟩ : _ ∧ k_ ≠ Jb))) (fun _ hk => hk.2) (.int .i64 ((zn t141 Jc).f0))) (fun _ hk => hk.2) (.int .i64 ((zn t141 Jc).f1))) (fun _ hk => hk.2) (.int .i64 ((zn t141 Jc).f2))) (fun _ hk => hk.2) (.int .i64 ((zn t141 Jc).f3))) (fun _ hk => hk.1.2)))⟩; have n1_ : ze (w20.heap[Jb]? = some (.cells #[.int .i64 ((zn t141 Jc).f0), .int .i64 ((zn t141 Jc).f1), .int .i64 ((zn t141 Jc).f2), .int .i64 ((zn t141 Jc).f3)] 92 (0, 0))) := ⟨(by rw [hw]; exact (by (with_reducible repeat (first | refine zg ?_ _ | refine zi ?_ | refine zh ?_ _)); refine zq (cs := #[.int .i64 ((zn t141 Jc).f0), .int .i64 ((zn t141 Jc).f1), .int .i64 ((zn t141 Jc).f2), .int .i64 0]) ?_ 3 _ rfl; (with_reducible repeat (first | refine zg ?_ _ | refine zi ?_ | refine zh ?_ _)); refine zq (cs := #[.int .i64 ((zn t141 Jc).f0), .int .i64 ((zn t141 Jc).f1), .int .i64 0, .int .i64 0]) ?_ 2 _ rfl; (with_reducible repeat (first | refine zg ?_ _ | refine zi ?_ | refine zh ?_ _)); refine zq (cs := #[.int .i64 ((zn t141 Jc).f0), .int .i64 0, .int .i64 0, .int .i64 0]) ?_ 1 _ rfl; (with_reducible repeat (first | refine zg ?_ _ | refine zi ?_ | refine zh ?_ _)); refine zq (cs := #[.int .i64 0, .int .i64 0, .int .i64 0, .int .i64 0]) ?_ 0 _ rfl; (with_reducible repeat (first | refine zg ?_ _ | refine zi ?_ | refine zh ?_ _)); exact Ja.o))⟩; have n2_ : ze (Below w.heap.size w w20) := ⟨(by rw [hw]; exact (by repeat (first | (with_reducible first | exact HB.o | apply zl | apply zf | apply zk | refine zm ?_ Jh.o) | exact HB.o)))⟩; clear hw; clear Je; clear Ja; clear HB; have Je := n0_; have Ja := n1_; have HB := n2_; clear n0_ n1_ n2_; have Dc : w20.cell? ⟨Jb, 0, none⟩ = some (.int .i64 ((zn t141 Jc).f0)) := (zb Ja.o 0).trans rfl; have Db : w20.cell? ⟨Jb, 1, none⟩ = some (.int .i64 ((zn t141 Jc).f1)) := (zb Ja.o 1).trans rfl; have Da : w20.cell? ⟨Jb, 2, none⟩ = some (.int .i64 ((zn t141 Jc).f2)) := (zb Ja.o 2).trans rfl; have G9 : w20.cell? ⟨Jb, 3, none⟩ = some (.int .i64 ((zn t141 Jc).f3)) := (zb Ja.o 3).trans rfl; have GG := za Ja.o 0; have GD := za Ja.o 1; have Gz := za Ja.o 2; have Gy := za Ja.o 3) | (go_at_call 62; (try simp only [i64_w, i32_w]); (with_reducible refine (plan_part_end.calls ((zn t141 Jc).f0) ((zn t141 Jc).f1) ((zn t141 Jc).f2) ((zn t141 Jc).f3) t146 _ A9.o).mono ?_); rintro e w22 ⟨rfl, hb⟩; have n0_ := ze.mk (Kd.zS (by (with_reducible repeat (first | apply Kd.zz | apply Kd.zA | apply Kd.zF)); exact Je.o) hb); have n1_ := ze.mk (zK (g := Jb) (o := .cells #[.int .i64 ((zn t141 Jc).f0), .int .i64 ((zn t141 Jc).f1), .int .i64 ((zn t141 Jc).f2), .int .i64 ((zn t141 Jc).f3)] 92 (0, 0)) (by (with_reducible repeat (first | refine zg ?_ _ | refine zi ?_ | refine zh ?_ _)); exact Ja.o) hb); have n2_ := ze.mk (zu (by repeat (first | (with_reducible first | exact HB.o | apply zl | apply zf | apply zk | refine zm ?_ Jh.o) | exact HB.o)) hb); clear Je; clear Ja; clear HB; have Je := n0_; have Ja := n1_; have HB := n2_; clear n0_ n1_ n2_; (try clear hb); (try clear hb2); (try clear hk); (try clear hi))); try go_wp2_with (first | ((with_reducible refine zC (N := 5) rfl ?_); refine zD ?hg (N := 5) ?hd (cs := #[.int .i64 0, .int .i64 0, .int .i64 0, .int .i64 0]) (t := 92) ?hr ?_; (case hd => rfl); (case hg => rfl); (case hr => first | (go_simp; done) | (go_simp; rfl)); intro Jb hg w18 hbox hb; have n0_ := ze.mk (Kd.zS (Kd.yG (by (with_reducible repeat (first | apply Kd.zz | apply Kd.zA | apply Kd.zF)); exact Je.o) Jb (Nat.le_of_eq hg.symm)) hb); have n1_ := ze.mk (zu (by repeat (first | (with_reducible first | exact HB.o | apply zl | apply zf | apply zk) | exact HB.o)) hb); have n2_ := ze.mk (hbox); have n3_ := ze.mk ((by rw [hg]; exact (zt (by repeat (first | (with_reducible first | exact HB.o | apply zl | apply zf | apply zk) | exact HB.o))) : w.heap.size ≤ Jb)); have n4_ := ze.mk ((by rw [hg]; exact (zt (by repeat (first | (with_reducible first | exact HB.o | apply zl | apply zf | apply zk) | exact HB.o))) : w.heap.size ≤ Jb)); clear Je; clear HB; have Je := n0_; have HB := n1_; have Ja := n2_; have JA := n3_; have Jh := n4_; clear n0_ n1_ n2_ n3_ n4_; clear hb hbox hg; have JP : w18.cell? ⟨Jb, 0, none⟩ = some (.int .i64 0) := (zb Ja.o 0).trans rfl; have JO : w18.cell? ⟨Jb, 1, none⟩ = some (.int .i64 0) := (zb Ja.o 1).trans rfl; have JN : w18.cell? ⟨Jb, 2, none⟩ = some (.int .i64 0) := (zb Ja.o 2).trans rfl; have JL : w18.cell? ⟨Jb, 3, none⟩ = some (.int .i64 0) := (zb Ja.o 3).trans rfl; have JG := za Ja.o 0; have JF := za Ja.o 1; have JE := za Ja.o 2; have JD := za Ja.o 3) | ((with_reducible refine zJ (t := 92) (p := 5) rfl ?_); (try (rw [zW w18]; generalize hq_ : World.drewN w18 _ = w18; have n0_ := ze.mk (Kd.R_at hq_ Je.o); have n1_ := ze.mk (yQ hq_ Ja.o); have n2_ := ze.mk (yB hq_ HB.o); clear hq_ Je Ja HB; have Je := n0_; have Ja := n1_; have HB := n2_; clear n0_ n1_ n2_)); refine zH (t := 92) (p := 5) (v := ?vo_w20) (w1 := ((((w18.setCell ⟨Jb, 0, none⟩ (.int .i64 ((zn t141 Jc).f0))).setCell ⟨Jb, 1, none⟩ (.int .i64 ((zn t141 Jc).f1))).setCell ⟨Jb, 2, none⟩ (.int .i64 ((zn t141 Jc).f2))).setCell ⟨Jb, 3, none⟩ (.int .i64 ((zn t141 Jc).f3)))) ?hg ?ho ?hn ?hr ?_; (case ho => rfl); (case hg => rfl); (case hn => rfl); (case hr => exact zL rfl rfl rfl (zP (P := Try.prog) (o := 0) (cur := #[.int .i64 0, .int .i64 0, .int .i64 0, .int .i64 0]) 92 (.agg #[.int .i64 ((zn t141 Jc).f0), .int .i64 ((zn t141 Jc).f1), .int .i64 ((zn t141 Jc).f2), .int .i64 ((zn t141 Jc).f3)]) [.int .i64 ((zn t141 Jc).f0), .int .i64 ((zn t141 Jc).f1), .int .i64 ((zn t141 Jc).f2), .int .i64 ((zn t141 Jc).f3)] (show _ = some (Obj.cells #[.int .i64 0, .int .i64 0, .int .i64 0, .int .i64 0] 92 (0, 0)) from (by (with_reducible repeat (first | refine zg ?_ _ | refine zi ?_ | refine zh ?_ _)); exact Ja.o)) rfl (by kernel_rfl) (show 4 ≤ 4 by decide) (by intro q_ hq_; simp only [List.mem_cons, List.not_mem_nil, or_false] at hq_; rcases hq_ with rfl | rfl | rfl | rfl <;> rfl))); intro w20 hw; have n0_ : ze (Kd.R k92 92 w20 w.heap.size (fun k_ => k_ ≠ Jb) (.slice (some Jv) t141.length co4) t141) := ⟨(by rw [hw]; exact (by (with_reducible repeat (first | apply Kd.zz | apply Kd.zA | apply Kd.zF)); exact Kd.zT (Kd.R_far (p := ⟨Jb, 3, none⟩) (Kd.R_far (p := ⟨Jb, 2, none⟩) (Kd.R_far (p := ⟨Jb, 1, none⟩) (Kd.R_far (p := ⟨Jb, 0, none⟩) (Kd.zT Je.o (fun k_ hk => (⟨hk, hk.2⟩ : _ ∧ k_ ≠ Jb))) (fun _ hk => hk.2) (.int .i64 ((zn t141 Jc).f0))) (fun _ hk => hk.2) (.int .i64 ((zn t141 Jc).f1))) (fun _ hk => hk.2) (.int .i64 ((zn t141 Jc).f2))) (fun _ hk => hk.2) (.int .i64 ((zn t141 Jc).f3))) (fun _ hk => hk.1.2)))⟩; have n1_ : ze (w20.heap[Jb]? = some (.cells #[.int .i64 ((zn t141 Jc).f0), .int .i64 ((zn t141 Jc).f1), .int .i64 ((zn t141 Jc).f2), .int .i64 ((zn t141 Jc).f3)] 92 (0, 0))) := ⟨(by rw [hw]; exact (by (with_reducible repeat (first | refine zg ?_ _ | refine zi ?_ | refine zh ?_ _)); refine zq (cs := #[.int .i64 ((zn t141 Jc).f0), .int .i64 ((zn t141 Jc).f1), .int .i64 ((zn t141 Jc).f2), .int .i64 0]) ?_ 3 _ rfl; (with_reducible repeat (first | refine zg ?_ _ | refine zi ?_ | refine zh ?_ _)); refine zq (cs := #[.int .i64 ((zn t141 Jc).f0), .int .i64 ((zn t141 Jc).f1), .int .i64 0, .int .i64 0]) ?_ 2 _ rfl; (with_reducible repeat (first | refine zg ?_ _ | refine zi ?_ | refine zh ?_ _)); refine zq (cs := #[.int .i64 ((zn t141 Jc).f0), .int .i64 0, .int .i64 0, .int .i64 0]) ?_ 1 _ rfl; (with_reducible repeat (first | refine zg ?_ _ | refine zi ?_ | refine zh ?_ _)); refine zq (cs := #[.int .i64 0, .int .i64 0, .int .i64 0, .int .i64 0]) ?_ 0 _ rfl; (with_reducible repeat (first | refine zg ?_ _ | refine zi ?_ | refine zh ?_ _)); exact Ja.o))⟩; have n2_ : ze (Below w.heap.size w w20) := ⟨(by rw [hw]; exact (by repeat (first | (with_reducible first | exact HB.o | apply zl | apply zf | apply zk | refine zm ?_ Jh.o) | exact HB.o)))⟩; clear hw; clear Je; clear Ja; clear HB; have Je := n0_; have Ja := n1_; have HB := n2_; clear n0_ n1_ n2_; have Dc : w20.cell? ⟨Jb, 0, none⟩ = some (.int .i64 ((zn t141 Jc).f0)) := (zb Ja.o 0).trans rfl; have Db : w20.cell? ⟨Jb, 1, none⟩ = some (.int .i64 ((zn t141 Jc).f1)) := (zb Ja.o 1).trans rfl; have Da : w20.cell? ⟨Jb, 2, none⟩ = some (.int .i64 ((zn t141 Jc).f2)) := (zb Ja.o 2).trans rfl; have G9 : w20.cell? ⟨Jb, 3, none⟩ = some (.int .i64 ((zn t141 Jc).f3)) := (zb Ja.o 3).trans rfl; have GG := za Ja.o 0; have GD := za Ja.o 1; have Gz := za Ja.o 2; have Gy := za Ja.o 3) | (go_at_call 62; (with_reducible refine (plan_part_end.calls ((zn t141 Jc).f0) ((zn t141 Jc).f1) ((zn t141 Jc).f2) ((zn t141 Jc).f3) t146 _ A9.o).mono ?_); rintro e w22 ⟨rfl, hb⟩; have n0_ := ze.mk (Kd.zS (by (with_reducible repeat (first | apply Kd.zz | apply Kd.zA | apply Kd.zF)); exact Je.o) hb); have n1_ := ze.mk (zK (g := Jb) (o := .cells #[.int .i64 ((zn t141 Jc).f0), .int .i64 ((zn t141 Jc).f1), .int .i64 ((zn t141 Jc).f2), .int .i64 ((zn t141 Jc).f3)] 92 (0, 0)) (by (with_reducible repeat (first | refine zg ?_ _ | refine zi ?_ | refine zh ?_ _)); exact Ja.o) hb); have n2_ := ze.mk (zu (by repeat (first | (with_reducible first | exact HB.o | apply zl | apply zf | apply zk | refine zm ?_ Jh.o) | exact HB.o)) hb); clear Je; clear Ja; clear HB; have Je := n0_; have Ja := n1_; have HB := n2_; clear n0_ n1_ n2_; (try clear hb); (try clear hb2); (try clear hk); (try clear hi))))
        go_roundg k1
        case measure => have := HK1.o; omega
        case rel => exact ⟨(wrap64 (Jc + 1)), (by first | rfl | (simp; done) | (simp [*]; done) | kernel_rfl), H', ⟨by have := HK1.o; omega⟩, ⟨by (with_reducible repeat (first | apply Kd.zz | apply Kd.zA | apply Kd.zF)); exact Kd.zT Je.o (fun _ hk => trivial)⟩, ⟨by repeat (first | (with_reducible first | exact HB.o | apply zl | apply zf | apply zk | refine zm ?_ Jh.o) | exact HB.o)⟩⟩
      ·rw [if_neg c8] at H
       have c8b0 : decide (((zn t141 Jc).f1) ≤ a0) = false := decide_eq_false c8
       clear c8
       have H' := ze.mk H
       clear H
       have J7 : 0 ≤ (Jc : Int) := of_decide_eq_true (by first | (with_reducible assumption) | assumption)
       have J6 : Jc < (t141.length : Int) := of_decide_eq_true (by first | (with_reducible assumption) | assumption)
       obtain ⟨Jv, D7, Gj, Gi, Gh, Gg⟩ := at_T92 (Kd.zQ Je.o).2.2 Jc J7 J6
       cases D7
       replace J7 := eq_true J7
       replace J6 := eq_true J6
       go_wp2_with (first | ((with_reducible refine zC (N := 5) rfl ?_); refine zD ?hg (N := 5) ?hd (cs := #[.int .i64 0, .int .i64 0, .int .i64 0, .int .i64 0]) (t := 92) ?hr ?_; (case hd => rfl); (case hg => rfl); (case hr => first | (go_simp; done) | (go_simp; rfl)); intro Jb hg w23 hbox hb; have n0_ := ze.mk (Kd.zS (Kd.yG (by (with_reducible repeat (first | apply Kd.zz | apply Kd.zA | apply Kd.zF)); exact Je.o) Jb (Nat.le_of_eq hg.symm)) hb); have n1_ := ze.mk (zu (by repeat (first | (with_reducible first | exact HB.o | apply zl | apply zf | apply zk) | exact HB.o)) hb); have n2_ := ze.mk (hbox); have n3_ := ze.mk ((by rw [hg]; exact (zt (by repeat (first | (with_reducible first | exact HB.o | apply zl | apply zf | apply zk) | exact HB.o))) : w.heap.size ≤ Jb)); have n4_ := ze.mk ((by rw [hg]; exact (zt (by repeat (first | (with_reducible first | exact HB.o | apply zl | apply zf | apply zk) | exact HB.o))) : w.heap.size ≤ Jb)); clear Je; clear HB; have Je := n0_; have HB := n1_; have Ja := n2_; have JA := n3_; have Jh := n4_; clear n0_ n1_ n2_ n3_ n4_; clear hb hbox hg; have G8 : w23.cell? ⟨Jb, 0, none⟩ = some (.int .i64 0) := (zb Ja.o 0).trans rfl; have G7 : w23.cell? ⟨Jb, 1, none⟩ = some (.int .i64 0) := (zb Ja.o 1).trans rfl; have G5 : w23.cell? ⟨Jb, 2, none⟩ = some (.int .i64 0) := (zb Ja.o 2).trans rfl; have GZ : w23.cell? ⟨Jb, 3, none⟩ = some (.int .i64 0) := (zb Ja.o 3).trans rfl; have Gx := za Ja.o 0; have Gw := za Ja.o 1; have Gv := za Ja.o 2; have Gu := za Ja.o 3) | ((with_reducible refine zJ (t := 92) (p := 5) rfl ?_); (try (rw [zW w23]; generalize hq_ : World.drewN w23 _ = w23; have n0_ := ze.mk (Kd.R_at hq_ Je.o); have n1_ := ze.mk (yQ hq_ Ja.o); have n2_ := ze.mk (yB hq_ HB.o); clear hq_ Je Ja HB; have Je := n0_; have Ja := n1_; have HB := n2_; clear n0_ n1_ n2_)); refine zH (t := 92) (p := 5) (v := ?vo_w25) (w1 := ((((w23.setCell ⟨Jb, 0, none⟩ (.int .i64 ((zn t141 Jc).f0))).setCell ⟨Jb, 1, none⟩ (.int .i64 ((zn t141 Jc).f1))).setCell ⟨Jb, 2, none⟩ (.int .i64 ((zn t141 Jc).f2))).setCell ⟨Jb, 3, none⟩ (.int .i64 ((zn t141 Jc).f3)))) ?hg ?ho ?hn ?hr ?_; (case ho => rfl); (case hg => rfl); (case hn => rfl); (case hr => exact zL rfl rfl rfl (zP (P := Try.prog) (o := 0) (cur := #[.int .i64 0, .int .i64 0, .int .i64 0, .int .i64 0]) 92 (.agg #[.int .i64 ((zn t141 Jc).f0), .int .i64 ((zn t141 Jc).f1), .int .i64 ((zn t141 Jc).f2), .int .i64 ((zn t141 Jc).f3)]) [.int .i64 ((zn t141 Jc).f0), .int .i64 ((zn t141 Jc).f1), .int .i64 ((zn t141 Jc).f2), .int .i64 ((zn t141 Jc).f3)] (show _ = some (Obj.cells #[.int .i64 0, .int .i64 0, .int .i64 0, .int .i64 0] 92 (0, 0)) from (by (with_reducible repeat (first | refine zg ?_ _ | refine zi ?_ | refine zh ?_ _)); exact Ja.o)) rfl (by kernel_rfl) (show 4 ≤ 4 by decide) (by intro q_ hq_; simp only [List.mem_cons, List.not_mem_nil, or_false] at hq_; rcases hq_ with rfl | rfl | rfl | rfl <;> rfl))); intro w25 hw; have n0_ : ze (Kd.R k92 92 w25 w.heap.size (fun k_ => k_ ≠ Jb) (.slice (some Jv) t141.length co4) t141) := ⟨(by rw [hw]; exact (by (with_reducible repeat (first | apply Kd.zz | apply Kd.zA | apply Kd.zF)); exact Kd.zT (Kd.R_far (p := ⟨Jb, 3, none⟩) (Kd.R_far (p := ⟨Jb, 2, none⟩) (Kd.R_far (p := ⟨Jb, 1, none⟩) (Kd.R_far (p := ⟨Jb, 0, none⟩) (Kd.zT Je.o (fun k_ hk => (⟨hk, hk.2⟩ : _ ∧ k_ ≠ Jb))) (fun _ hk => hk.2) (.int .i64 ((zn t141 Jc).f0))) (fun _ hk => hk.2) (.int .i64 ((zn t141 Jc).f1))) (fun _ hk => hk.2) (.int .i64 ((zn t141 Jc).f2))) (fun _ hk => hk.2) (.int .i64 ((zn t141 Jc).f3))) (fun _ hk => hk.1.2)))⟩; have n1_ : ze (w25.heap[Jb]? = some (.cells #[.int .i64 ((zn t141 Jc).f0), .int .i64 ((zn t141 Jc).f1), .int .i64 ((zn t141 Jc).f2), .int .i64 ((zn t141 Jc).f3)] 92 (0, 0))) := ⟨(by rw [hw]; exact (by (with_reducible repeat (first | refine zg ?_ _ | refine zi ?_ | refine zh ?_ _)); refine zq (cs := #[.int .i64 ((zn t141 Jc).f0), .int .i64 ((zn t141 Jc).f1), .int .i64 ((zn t141 Jc).f2), .int .i64 0]) ?_ 3 _ rfl; (with_reducible repeat (first | refine zg ?_ _ | refine zi ?_ | refine zh ?_ _)); refine zq (cs := #[.int .i64 ((zn t141 Jc).f0), .int .i64 ((zn t141 Jc).f1), .int .i64 0, .int .i64 0]) ?_ 2 _ rfl; (with_reducible repeat (first | refine zg ?_ _ | refine zi ?_ | refine zh ?_ _)); refine zq (cs := #[.int .i64 ((zn t141 Jc).f0), .int .i64 0, .int .i64 0, .int .i64 0]) ?_ 1 _ rfl; (with_reducible repeat (first | refine zg ?_ _ | refine zi ?_ | refine zh ?_ _)); refine zq (cs := #[.int .i64 0, .int .i64 0, .int .i64 0, .int .i64 0]) ?_ 0 _ rfl; (with_reducible repeat (first | refine zg ?_ _ | refine zi ?_ | refine zh ?_ _)); exact Ja.o))⟩; have n2_ : ze (Below w.heap.size w w25) := ⟨(by rw [hw]; exact (by repeat (first | (with_reducible first | exact HB.o | apply zl | apply zf | apply zk | refine zm ?_ Jh.o) | exact HB.o)))⟩; clear hw; clear Je; clear Ja; clear HB; have Je := n0_; have Ja := n1_; have HB := n2_; clear n0_ n1_ n2_; have GY : w25.cell? ⟨Jb, 0, none⟩ = some (.int .i64 ((zn t141 Jc).f0)) := (zb Ja.o 0).trans rfl; have GX : w25.cell? ⟨Jb, 1, none⟩ = some (.int .i64 ((zn t141 Jc).f1)) := (zb Ja.o 1).trans rfl; have GV : w25.cell? ⟨Jb, 2, none⟩ = some (.int .i64 ((zn t141 Jc).f2)) := (zb Ja.o 2).trans rfl; have GU : w25.cell? ⟨Jb, 3, none⟩ = some (.int .i64 ((zn t141 Jc).f3)) := (zb Ja.o 3).trans rfl; have Gt := za Ja.o 0; have Gs := za Ja.o 1; have Gr := za Ja.o 2; have Gq := za Ja.o 3))
       repeat (go_quiet (first | ((with_reducible refine zC (N := 5) rfl ?_); refine zD ?hg (N := 5) ?hd (cs := #[.int .i64 0, .int .i64 0, .int .i64 0, .int .i64 0]) (t := 92) ?hr ?_; (case hd => rfl); (case hg => rfl); (case hr => first | (go_simp; done) | (go_simp; rfl)); intro Jb hg w23 hbox hb; have n0_ := ze.mk (Kd.zS (Kd.yG (by (with_reducible repeat (first | apply Kd.zz | apply Kd.zA | apply Kd.zF)); exact Je.o) Jb (Nat.le_of_eq hg.symm)) hb); have n1_ := ze.mk (zu (by repeat (first | (with_reducible first | exact HB.o | apply zl | apply zf | apply zk) | exact HB.o)) hb); have n2_ := ze.mk (hbox); have n3_ := ze.mk ((by rw [hg]; exact (zt (by repeat (first | (with_reducible first | exact HB.o | apply zl | apply zf | apply zk) | exact HB.o))) : w.heap.size ≤ Jb)); have n4_ := ze.mk ((by rw [hg]; exact (zt (by repeat (first | (with_reducible first | exact HB.o | apply zl | apply zf | apply zk) | exact HB.o))) : w.heap.size ≤ Jb)); clear Je; clear HB; have Je := n0_; have HB := n1_; have Ja := n2_; have JA := n3_; have Jh := n4_; clear n0_ n1_ n2_ n3_ n4_; clear hb hbox hg; have G8 : w23.cell? ⟨Jb, 0, none⟩ = some (.int .i64 0) := (zb Ja.o 0).trans rfl; have G7 : w23.cell? ⟨Jb, 1, none⟩ = some (.int .i64 0) := (zb Ja.o 1).trans rfl; have G5 : w23.cell? ⟨Jb, 2, none⟩ = some (.int .i64 0) := (zb Ja.o 2).trans rfl; have GZ : w23.cell? ⟨Jb, 3, none⟩ = some (.int .i64 0) := (zb Ja.o 3).trans rfl; have Gx := za Ja.o 0; have Gw := za Ja.o 1; have Gv := za Ja.o 2; have Gu := za Ja.o 3) | ((with_reducible refine zJ (t := 92) (p := 5) rfl ?_); (try (rw [zW w23]; generalize hq_ : World.drewN w23 _ = w23; have n0_ := ze.mk (Kd.R_at hq_ Je.o); have n1_ := ze.mk (yQ hq_ Ja.o); have n2_ := ze.mk (yB hq_ HB.o); clear hq_ Je Ja HB; have Je := n0_; have Ja := n1_; have HB := n2_; clear n0_ n1_ n2_)); refine zH (t := 92) (p := 5) (v := ?vo_w25) (w1 := ((((w23.setCell ⟨Jb, 0, none⟩ (.int .i64 ((zn t141 Jc).f0))).setCell ⟨Jb, 1, none⟩ (.int .i64 ((zn t141 Jc).f1))).setCell ⟨Jb, 2, none⟩ (.int .i64 ((zn t141 Jc).f2))).setCell ⟨Jb, 3, none⟩ (.int .i64 ((zn t141 Jc).f3)))) ?hg ?ho ?hn ?hr ?_; (case ho => rfl); (case hg => rfl); (case hn => rfl); (case hr => exact zL rfl rfl rfl (zP (P := Try.prog) (o := 0) (cur := #[.int .i64 0, .int .i64 0, .int .i64 0, .int .i64 0]) 92 (.agg #[.int .i64 ((zn t141 Jc).f0), .int .i64 ((zn t141 Jc).f1), .int .i64 ((zn t141 Jc).f2), .int .i64 ((zn t141 Jc).f3)]) [.int .i64 ((zn t141 Jc).f0), .int .i64 ((zn t141 Jc).f1), .int .i64 ((zn t141 Jc).f2), .int .i64 ((zn t141 Jc).f3)] (show _ = some (Obj.cells #[.int .i64 0, .int .i64 0, .int .i64 0, .int .i64 0] 92 (0, 0)) from (by (with_reducible repeat (first | refine zg ?_ _ | refine zi ?_ | refine zh ?_ _)); exact Ja.o)) rfl (by kernel_rfl) (show 4 ≤ 4 by decide) (by intro q_ hq_; simp only [List.mem_cons, List.not_mem_nil, or_false] at hq_; rcases hq_ with rfl | rfl | rfl | rfl <;> rfl))); intro w25 hw; have n0_ : ze (Kd.R k92 92 w25 w.heap.size (fun k_ => k_ ≠ Jb) (.slice (some Jv) t141.length co4) t141) := ⟨(by rw [hw]; exact (by (with_reducible repeat (first | apply Kd.zz | apply Kd.zA | apply Kd.zF)); exact Kd.zT (Kd.R_far (p := ⟨Jb, 3, none⟩) (Kd.R_far (p := ⟨Jb, 2, none⟩) (Kd.R_far (p := ⟨Jb, 1, none⟩) (Kd.R_far (p := ⟨Jb, 0, none⟩) (Kd.zT Je.o (fun k_ hk => (⟨hk, hk.2⟩ : _ ∧ k_ ≠ Jb))) (fun _ hk => hk.2) (.int .i64 ((zn t141 Jc).f0))) (fun _ hk => hk.2) (.int .i64 ((zn t141 Jc).f1))) (fun _ hk => hk.2) (.int .i64 ((zn t141 Jc).f2))) (fun _ hk => hk.2) (.int .i64 ((zn t141 Jc).f3))) (fun _ hk => hk.1.2)))⟩; have n1_ : ze (w25.heap[Jb]? = some (.cells #[.int .i64 ((zn t141 Jc).f0), .int .i64 ((zn t141 Jc).f1), .int .i64 ((zn t141 Jc).f2), .int .i64 ((zn t141 Jc).f3)] 92 (0, 0))) := ⟨(by rw [hw]; exact (by (with_reducible repeat (first | refine zg ?_ _ | refine zi ?_ | refine zh ?_ _)); refine zq (cs := #[.int .i64 ((zn t141 Jc).f0), .int .i64 ((zn t141 Jc).f1), .int .i64 ((zn t141 Jc).f2), .int .i64 0]) ?_ 3 _ rfl; (with_reducible repeat (first | refine zg ?_ _ | refine zi ?_ | refine zh ?_ _)); refine zq (cs := #[.int .i64 ((zn t141 Jc).f0), .int .i64 ((zn t141 Jc).f1), .int .i64 0, .int .i64 0]) ?_ 2 _ rfl; (with_reducible repeat (first | refine zg ?_ _ | refine zi ?_ | refine zh ?_ _)); refine zq (cs := #[.int .i64 ((zn t141 Jc).f0), .int .i64 0, .int .i64 0, .int .i64 0]) ?_ 1 _ rfl; (with_reducible repeat (first | refine zg ?_ _ | refine zi ?_ | refine zh ?_ _)); refine zq (cs := #[.int .i64 0, .int .i64 0, .int .i64 0, .int .i64 0]) ?_ 0 _ rfl; (with_reducible repeat (first | refine zg ?_ _ | refine zi ?_ | refine zh ?_ _)); exact Ja.o))⟩; have n2_ : ze (Below w.heap.size w w25) := ⟨(by rw [hw]; exact (by repeat (first | (with_reducible first | exact HB.o | apply zl | apply zf | apply zk | refine zm ?_ Jh.o) | exact HB.o)))⟩; clear hw; clear Je; clear Ja; clear HB; have Je := n0_; have Ja := n1_; have HB := n2_; clear n0_ n1_ n2_; have GY : w25.cell? ⟨Jb, 0, none⟩ = some (.int .i64 ((zn t141 Jc).f0)) := (zb Ja.o 0).trans rfl; have GX : w25.cell? ⟨Jb, 1, none⟩ = some (.int .i64 ((zn t141 Jc).f1)) := (zb Ja.o 1).trans rfl; have GV : w25.cell? ⟨Jb, 2, none⟩ = some (.int .i64 ((zn t141 Jc).f2)) := (zb Ja.o 2).trans rfl; have GU : w25.cell? ⟨Jb, 3, none⟩ = some (.int .i64 ((zn t141 Jc).f3)) := (zb Ja.o 3).trans rfl; have Gt := za Ja.o 0; have Gs := za Ja.o 1; have Gr := za Ja.o 2; have Gq := za Ja.o 3)); try go_wp2_with (first | ((with_reducible refine zC (N := 5) rfl ?_); refine zD ?hg (N := 5) ?hd (cs := #[.int .i64 0, .int .i64 0, .int .i64 0, .int .i64 0]) (t := 92) ?hr ?_; (case hd => rfl); (case hg => rfl); (case hr => first | (go_simp; done) | (go_simp; rfl)); intro Jb hg w23 hbox hb; have n0_ := ze.mk (Kd.zS (Kd.yG (by (with_reducible repeat (first | apply Kd.zz | apply Kd.zA | apply Kd.zF)); exact Je.o) Jb (Nat.le_of_eq hg.symm)) hb); have n1_ := ze.mk (zu (by repeat (first | (with_reducible first | exact HB.o | apply zl | apply zf | apply zk) | exact HB.o)) hb); have n2_ := ze.mk (hbox); have n3_ := ze.mk ((by rw [hg]; exact (zt (by repeat (first | (with_reducible first | exact HB.o | apply zl | apply zf | apply zk) | exact HB.o))) : w.heap.size ≤ Jb)); have n4_ := ze.mk ((by rw [hg]; exact (zt (by repeat (first | (with_reducible first | exact HB.o | apply zl | apply zf | apply zk) | exact HB.o))) : w.heap.size ≤ Jb)); clear Je; clear HB; have Je := n0_; have HB := n1_; have Ja := n2_; have JA := n3_; have Jh := n4_; clear n0_ n1_ n2_ n3_ n4_; clear hb hbox hg; have G8 : w23.cell? ⟨Jb, 0, none⟩ = some (.int .i64 0) := (zb Ja.o 0).trans rfl; have G7 : w23.cell? ⟨Jb, 1, none⟩ = some (.int .i64 0) := (zb Ja.o 1).trans rfl; have G5 : w23.cell? ⟨Jb, 2, none⟩ = some (.int .i64 0) := (zb Ja.o 2).trans rfl; have GZ : w23.cell? ⟨Jb, 3, none⟩ = some (.int .i64 0) := (zb Ja.o 3).trans rfl; have Gx := za Ja.o 0; have Gw := za Ja.o 1; have Gv := za Ja.o 2; have Gu := za Ja.o 3) | ((with_reducible refine zJ (t := 92) (p := 5) rfl ?_); (try (rw [zW w23]; generalize hq_ : World.drewN w23 _ = w23; have n0_ := ze.mk (Kd.R_at hq_ Je.o); have n1_ := ze.mk (yQ hq_ Ja.o); have n2_ := ze.mk (yB hq_ HB.o); clear hq_ Je Ja HB; have Je := n0_; have Ja := n1_; have HB := n2_; clear n0_ n1_ n2_)); refine zH (t := 92) (p := 5) (v := ?vo_w25) (w1 := ((((w23.setCell ⟨Jb, 0, none⟩ (.int .i64 ((zn t141 Jc).f0))).setCell ⟨Jb, 1, none⟩ (.int .i64 ((zn t141 Jc).f1))).setCell ⟨Jb, 2, none⟩ (.int .i64 ((zn t141 Jc).f2))).setCell ⟨Jb, 3, none⟩ (.int .i64 ((zn t141 Jc).f3)))) ?hg ?ho ?hn ?hr ?_; (case ho => rfl); (case hg => rfl); (case hn => rfl); (case hr => exact zL rfl rfl rfl (zP (P := Try.prog) (o := 0) (cur := #[.int .i64 0, .int .i64 0, .int .i64 0, .int .i64 0]) 92 (.agg #[.int .i64 ((zn t141 Jc).f0), .int .i64 ((zn t141 Jc).f1), .int .i64 ((zn t141 Jc).f2), .int .i64 ((zn t141 Jc).f3)]) [.int .i64 ((zn t141 Jc).f0), .int .i64 ((zn t141 Jc).f1), .int .i64 ((zn t141 Jc).f2), .int .i64 ((zn t141 Jc).f3)] (show _ = some (Obj.cells #[.int .i64 0, .int .i64 0, .int .i64 0, .int .i64 0] 92 (0, 0)) from (by (with_reducible repeat (first | refine zg ?_ _ | refine zi ?_ | refine zh ?_ _)); exact Ja.o)) rfl (by kernel_rfl) (show 4 ≤ 4 by decide) (by intro q_ hq_; simp only [List.mem_cons, List.not_mem_nil, or_false] at hq_; rcases hq_ with rfl | rfl | rfl | rfl <;> rfl))); intro w25 hw; have n0_ : ze (Kd.R k92 92 w25 w.heap.size (fun k_ => k_ ≠ Jb) (.slice (some Jv) t141.length co4) t141) := ⟨(by rw [hw]; exact (by (with_reducible repeat (first | apply Kd.zz | apply Kd.zA | apply Kd.zF)); exact Kd.zT (Kd.R_far (p := ⟨Jb, 3, none⟩) (Kd.R_far (p := ⟨Jb, 2, none⟩) (Kd.R_far (p := ⟨Jb, 1, none⟩) (Kd.R_far (p := ⟨Jb, 0, none⟩) (Kd.zT Je.o (fun k_ hk => (⟨hk, hk.2⟩ : _ ∧ k_ ≠ Jb))) (fun _ hk => hk.2) (.int .i64 ((zn t141 Jc).f0))) (fun _ hk => hk.2) (.int .i64 ((zn t141 Jc).f1))) (fun _ hk => hk.2) (.int .i64 ((zn t141 Jc).f2))) (fun _ hk => hk.2) (.int .i64 ((zn t141 Jc).f3))) (fun _ hk => hk.1.2)))⟩; have n1_ : ze (w25.heap[Jb]? = some (.cells #[.int .i64 ((zn t141 Jc).f0), .int .i64 ((zn t141 Jc).f1), .int .i64 ((zn t141 Jc).f2), .int .i64 ((zn t141 Jc).f3)] 92 (0, 0))) := ⟨(by rw [hw]; exact (by (with_reducible repeat (first | refine zg ?_ _ | refine zi ?_ | refine zh ?_ _)); refine zq (cs := #[.int .i64 ((zn t141 Jc).f0), .int .i64 ((zn t141 Jc).f1), .int .i64 ((zn t141 Jc).f2), .int .i64 0]) ?_ 3 _ rfl; (with_reducible repeat (first | refine zg ?_ _ | refine zi ?_ | refine zh ?_ _)); refine zq (cs := #[.int .i64 ((zn t141 Jc).f0), .int .i64 ((zn t141 Jc).f1), .int .i64 0, .int .i64 0]) ?_ 2 _ rfl; (with_reducible repeat (first | refine zg ?_ _ | refine zi ?_ | refine zh ?_ _)); refine zq (cs := #[.int .i64 ((zn t141 Jc).f0), .int .i64 0, .int .i64 0, .int .i64 0]) ?_ 1 _ rfl; (with_reducible repeat (first | refine zg ?_ _ | refine zi ?_ | refine zh ?_ _)); refine zq (cs := #[.int .i64 0, .int .i64 0, .int .i64 0, .int .i64 0]) ?_ 0 _ rfl; (with_reducible repeat (first | refine zg ?_ _ | refine zi ?_ | refine zh ?_ _)); exact Ja.o))⟩; have n2_ : ze (Below w.heap.size w w25) := ⟨(by rw [hw]; exact (by repeat (first | (with_reducible first | exact HB.o | apply zl | apply zf | apply zk | refine zm ?_ Jh.o) | exact HB.o)))⟩; clear hw; clear Je; clear Ja; clear HB; have Je := n0_; have Ja := n1_; have HB := n2_; clear n0_ n1_ n2_; have GY : w25.cell? ⟨Jb, 0, none⟩ = some (.int .i64 ((zn t141 Jc).f0)) := (zb Ja.o 0).trans rfl; have GX : w25.cell? ⟨Jb, 1, none⟩ = some (.int .i64 ((zn t141 Jc).f1)) := (zb Ja.o 1).trans rfl; have GV : w25.cell? ⟨Jb, 2, none⟩ = some (.int .i64 ((zn t141 Jc).f2)) := (zb Ja.o 2).trans rfl; have GU : w25.cell? ⟨Jb, 3, none⟩ = some (.int .i64 ((zn t141 Jc).f3)) := (zb Ja.o 3).trans rfl; have Gt := za Ja.o 0; have Gs := za Ja.o 1; have Gr := za Ja.o 2; have Gq := za Ja.o 3)))
       go_roundg k1
       case measure => have := HK1.o; omega
       case rel => exact ⟨(wrap64 (Jc + 1)), (by first | rfl | (simp; done) | (simp [*]; done) | kernel_rfl), H', ⟨by have := HK1.o; omega⟩, ⟨by (with_reducible repeat (first | apply Kd.zz | apply Kd.zA | apply Kd.zF)); exact Kd.zT Je.o (fun _ hk => trivial)⟩, ⟨by repeat (first | (with_reducible first | exact HB.o | apply zl | apply zf | apply zk | refine zm ?_ Jh.o) | exact HB.o)⟩⟩
     ·rw [if_neg c7] at H
      exact absurd H (by simp)
    ·rw [if_neg c6] at H
     exact absurd H (by simp)
   ·rw [if_neg c5] at H
    have Jad : decide (Jc < (t141.length : Int)) = false := decide_eq_false c5
    clear c5
    simp only [Option.some.injEq, Prod.mk.injEq] at H
    obtain ⟨rfl, rfl⟩ := H
    go_wp2
    repeat (go_quiet (fail); try go_wp2)
    go_ret2
    exact ⟨by first | rfl | (simp [zy, zx] <;> rfl) | (simp [*, zy, zx] <;> rfl), by repeat (first | (with_reducible first | exact HB.o | apply zl | apply zf | apply zk) | exact HB.o)⟩

end Go.Proofs.Ytkbhilhefnahpaa.Print
