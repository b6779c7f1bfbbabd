import Derived.Test.YtkbhilhefnahpaaGreatPrint0
namespace Go.Proofs.YtkbhilhefnahpaaGreat.Print
open Go.RowKit Go.Proofs.YtkbhilhefnahpaaGreatW.PrintWords Go.Proofs.YtkbhilhefnahpaaGreatW.PrintLast Go.Proofs.YtkbhilhefnahpaaGreatW.PrintMore
attribute [local go_sem] yS yR Zq Zp yH yG Zb Za   -- for this text's walks alone
set_option linter.unusedVariables false
set_option linter.unusedSimpArgs false

/-! ### plan_part_end: function 48 -/
def plan_part_end.f (Gb : Int) (JU : Int) (JS : Int) (JR : Int) : Option (Int) := some (wrap64 (JU + (wrap64 (JS * JR))))
set_option maxHeartbeats 8000000 in
set_option maxRecDepth 100000 in
theorem plan_part_end.calls (Gb : Int) (JU : Int) (JS : Int) (JR : Int) (r : Int) (w : World) (h : plan_part_end.f Gb JU JS JR = some r) :
  Calls Tryz.prog 48 #[.agg #[.int .i64 Gb, .int .i64 JU, .int .i64 JS, .int .i64 JR]] w fun e w' => e = .returned (.int .i64 r) ∧ Below w.heap.size w w' := by
 have hu82 := Tryz.underlying82
 have HB := ze.mk (Below.refl w.heap.size w)
 have H : (some (wrap64 (JU + (wrap64 (JS * JR))))) = some r := h
 clear h
 obtain rfl := Option.some.inj H
 go_enter Tryz.func48, Tryz.ntmps48
 go_wp2_with (first | ((with_reducible refine zD (N := 1) rfl ?_); refine zC ?hg (N := 1) ?hd (cs := #[.int .i64 Gb, .int .i64 JU, .int .i64 JS, .int .i64 JR]) (t := 82) ?hr ?_; (case hd => rfl); (case hg => rfl); (case hr => first | (go_simp; done) | (go_simp; rfl)); intro Jt hg w2 hbox hb; have n0_ := ze.mk (zu (by repeat (first | (with_reducible first | exact HB.o | apply zl | apply zf | apply zk) | exact HB.o)) hb); have n1_ := ze.mk (hbox); have n2_ := ze.mk ((by rw [hg]; exact (zt (by repeat (first | (with_reducible first | exact HB.o | apply zl | apply zf | apply zk) | exact HB.o))) : w.heap.size ≤ Jt)); have n3_ := ze.mk ((by rw [hg]; exact (zt (by repeat (first | (with_reducible first | exact HB.o | apply zl | apply zf | apply zk) | exact HB.o))) : w.heap.size ≤ Jt)); clear HB; have HB := n0_; have Jn := n1_; have GW101 := n2_; have GZ := n3_; clear n0_ n1_ n2_ n3_; clear hb hbox hg; have hcz3_0 : w2.cell? ⟨Jt, 0, none⟩ = some (.int .i64 Gb) := (zb Jn.o 0).trans rfl; have hcz3_1 : w2.cell? ⟨Jt, 1, none⟩ = some (.int .i64 JU) := (zb Jn.o 1).trans rfl; have hcz3_2 : w2.cell? ⟨Jt, 2, none⟩ = some (.int .i64 JS) := (zb Jn.o 2).trans rfl; have hcz3_3 : w2.cell? ⟨Jt, 3, none⟩ = some (.int .i64 JR) := (zb Jn.o 3).trans rfl; have hfz3_0 := za Jn.o 0; have hfz3_1 := za Jn.o 1; have hfz3_2 := za Jn.o 2; have hfz3_3 := za Jn.o 3))
 go_ret
 exact ⟨by first | rfl | (simp [zy, zx] <;> rfl) | (simp [*, zy, zx] <;> rfl), by repeat (first | (with_reducible first | exact HB.o | apply zl | apply zf | apply zk | refine zm ?_ GZ.o) | exact HB.o)⟩

/-! ### plan_parts: function 65 -/
def plan_parts.l0 : Nat → List (S82) → Int → Option ((List (S82)))
 | 0, _, _ => none
 | k + 1, x1, x2 => if x2 < (x1.length : Int) then (if 0 ≤ (wrap64 (x2 - 1)) then (if (wrap64 (x2 - 1)) < (x1.length : Int) then ((plan_part_end.f ((zn x1 (wrap64 (x2 - 1))).f0) ((zn x1 (wrap64 (x2 - 1))).f1) ((zn x1 (wrap64 (x2 - 1))).f2) ((zn x1 (wrap64 (x2 - 1))).f3)).bind fun Ju => (if 0 ≤ x2 then (plan_parts.l0 k (x1.set (x2 : Int).toNat (⟨(zn x1 x2).f0, Ju, (zn x1 x2).f2, (zn x1 x2).f3⟩ : S82)) (wrap64 (x2 + 1))) else (none))) else (none)) else (none)) else (some x1)
def plan_parts.f (k : Nat)  : Option ((List (S82))) := plan_parts.l0 k (([(⟨1, 0, 1, 8⟩ : S82), (⟨2, 0, 24, 8⟩ : S82), (⟨3, 0, 96, 1⟩ : S82), (⟨4, 0, 4, 248⟩ : S82), (⟨5, 0, 96, 16⟩ : S82)] : List (S82))) 1
set_option maxHeartbeats 8000000 in
set_option maxRecDepth 100000 in
theorem plan_parts.calls (k : Nat)  (r : List (S82)) (w : World) (h : plan_parts.f k  = some r) :
  Calls Tryz.prog 65 #[] w fun e w' => ∃ v0_ : Value, e = .returned (v0_) ∧ Kd.R k82 82 w' w.heap.size (fun _ => True) v0_ r ∧ Below w.heap.size w w' := by
 have hu82 := Tryz.underlying82
 have HB := ze.mk (Below.refl w.heap.size w)
 have H : (plan_parts.l0 k (([(⟨1, 0, 1, 8⟩ : S82), (⟨2, 0, 24, 8⟩ : S82), (⟨3, 0, 96, 1⟩ : S82), (⟨4, 0, 4, 248⟩ : S82), (⟨5, 0, 96, 16⟩ : S82)] : List (S82))) 1) = some r := h
 clear h
 obtain ⟨y102, hy102⟩ : ∃ y_ : List (S82), y_ = (([(⟨1, 0, 1, 8⟩ : S82), (⟨2, 0, 24, 8⟩ : S82), (⟨3, 0, 96, 1⟩ : S82), (⟨4, 0, 4, 248⟩ : S82), (⟨5, 0, 96, 16⟩ : S82)] : List (S82))) := ⟨_, rfl⟩
 replace H : (plan_parts.l0 k y102 1) = some r := by first | (rw [hy102]; with_reducible exact H) | (have H2_ := (Option.bind_some _ _).symm.trans H; rw [hy102]; with_reducible exact H2_) | (have H2_ := (Option.bind_some _ _).symm.trans H; with_reducible exact H2_) | with_reducible exact H | (rw [hy102]; exact H) | exact H
 have Gf := ze.mk hy102
 clear hy102
 have H' := ze.mk H
 clear H
 go_enter Tryz.func65, Tryz.ntmps65
 go_wp2_with (first | ((with_reducible refine zD (N := 8) rfl ?_); refine Kd.R_lit k82 _ 82 ?hg (N := 8) ?hd (xs := ([(⟨1, 0, 1, 8⟩ : S82), (⟨2, 0, 24, 8⟩ : S82), (⟨3, 0, 96, 1⟩ : S82), (⟨4, 0, 4, 248⟩ : S82), (⟨5, 0, 96, 16⟩ : S82)] : List (S82))) (inner := [.int .i64 1, .int .i64 0, .int .i64 1, .int .i64 8, .int .i64 2, .int .i64 0, .int .i64 24, .int .i64 8, .int .i64 3, .int .i64 0, .int .i64 96, .int .i64 1, .int .i64 4, .int .i64 0, .int .i64 4, .int .i64 248, .int .i64 5, .int .i64 0, .int .i64 96, .int .i64 16]) (ok := fun _ => True) (okp := fun _ => True) ?hr ?hp (fun _ hk => hk) trivial (Below.refl _ _) (Nat.le_refl _) (by simp) ?_; (case hd => rfl); (case hg => rfl); (case hr => first | (go_simp; done) | (go_simp; rfl)); (case hp => exact (Reps.c4 (show Kd.M k82 _ _ _ (⟨1, 0, 1, 8⟩ : S82) [.int .i64 1, .int .i64 0, .int .i64 1, .int .i64 8] from (YS _ _ _ (⟨1, 0, 1, 8⟩ : S82) )) (Reps.c4 (show Kd.M k82 _ _ _ (⟨2, 0, 24, 8⟩ : S82) [.int .i64 2, .int .i64 0, .int .i64 24, .int .i64 8] from (YS _ _ _ (⟨2, 0, 24, 8⟩ : S82) )) (Reps.c4 (show Kd.M k82 _ _ _ (⟨3, 0, 96, 1⟩ : S82) [.int .i64 3, .int .i64 0, .int .i64 96, .int .i64 1] from (YS _ _ _ (⟨3, 0, 96, 1⟩ : S82) )) (Reps.c4 (show Kd.M k82 _ _ _ (⟨4, 0, 4, 248⟩ : S82) [.int .i64 4, .int .i64 0, .int .i64 4, .int .i64 248] from (YS _ _ _ (⟨4, 0, 4, 248⟩ : S82) )) (Reps.c4 (show Kd.M k82 _ _ _ (⟨5, 0, 96, 16⟩ : S82) [.int .i64 5, .int .i64 0, .int .i64 96, .int .i64 16] from (YS _ _ _ (⟨5, 0, 96, 16⟩ : S82) )) (Reps.none _ _))))))); intro v103 w1 ho2 hb hg_ hnew_; clear hg_ hnew_; (first | rw [← Gf.o] at ho2 | (simp only [Int.reduceToNat] at ho2; rw [← Gf.o] at ho2)); have n0_ := ze.mk (Kd.yf ho2 (zt (by repeat (first | (with_reducible first | exact HB.o | apply zl | apply zf | apply zk) | exact HB.o)))); have n1_ := ze.mk (zu (by repeat (first | (with_reducible first | exact HB.o | apply zl | apply zf | apply zk) | exact HB.o)) hb); clear HB; have GY := n0_; have HB := n1_; clear n0_ n1_; clear hb ho2))
 go_loopg [2] k (fun kq v2 w' => ∃ (Jb : List (S82)) (Ja : Int), v2 = .int .i64 Ja ∧ ze (plan_parts.l0 kq Jb Ja = some r) ∧ ze (kq ≤ k) ∧ ze (Kd.R k82 82 w' w.heap.size (fun _ => True) v103 Jb) ∧ ze (Below w.heap.size w w'))
 case atStart => exact ⟨(y102), (1), (by first | rfl | (simp; done) | (simp [*]; done) | kernel_rfl), H', ⟨Nat.le_refl _⟩, ⟨by (with_reducible repeat (first | apply Kd.zz | apply Kd.zA | apply Kd.zF)); exact GY.o⟩, ⟨by repeat (first | (with_reducible first | exact HB.o | apply zl | apply zf | apply zk) | exact HB.o)⟩⟩
 case round =>
  clear H'
  try clear p2
  obtain ⟨Jb, Ja, rfl, HA, HK1, Jp, HB⟩ := hrel
  cases gk with
  | zero => exact absurd HA.o (by simp [plan_parts.l0])
  | succ k1 =>
   have H := HA.o
   clear HA
   simp only [plan_parts.l0] at H
   by_cases c3 : Ja < (Jb.length : Int)
   ·rw [if_pos c3] at H
    have c3b0 : decide (Ja < (Jb.length : Int)) = true := decide_eq_true c3
    clear c3
    obtain ⟨ji4, Gl⟩ : ∃ j_ : Int, (wrap64 (Ja - 1)) = j_ := ⟨_, rfl⟩
    replace H : (if 0 ≤ (ji4) then (if (ji4) < (Jb.length : Int) then ((plan_part_end.f ((zn Jb (ji4)).f0) ((zn Jb (ji4)).f1) ((zn Jb (ji4)).f2) ((zn Jb (ji4)).f3)).bind fun Ju => (if 0 ≤ Ja then (plan_parts.l0 k1 (Jb.set (Ja : Int).toNat (⟨(zn Jb Ja).f0, Ju, (zn Jb Ja).f2, (zn Jb Ja).f3⟩ : S82)) (wrap64 (Ja + 1))) else (none))) else (none)) else (none)) = some r := by first | (rw [Gl] at H; exact H) | (simp only [Gl] at H ⊢; exact H)
    have hji4w : (IntKind.i64.wrap (Ja - 1)) = ji4 := (i64_w _).trans Gl
    by_cases c5 : 0 ≤ (ji4)
    ·rw [if_pos c5] at H
     have c5b0 : decide (0 ≤ (ji4)) = true := decide_eq_true c5
     clear c5
     by_cases c6 : (ji4) < (Jb.length : Int)
     ·rw [if_pos c6] at H
      have c6b0 : decide ((ji4) < (Jb.length : Int)) = true := decide_eq_true c6
      clear c6
      replace H := Option.bind_eq_some_iff.mp H
      obtain ⟨Ju, A70, H⟩ := H
      replace H : (if 0 ≤ Ja then (plan_parts.l0 k1 (Jb.set (Ja : Int).toNat (⟨(zn Jb Ja).f0, Ju, (zn Jb Ja).f2, (zn Jb Ja).f3⟩ : S82)) (wrap64 (Ja + 1))) else (none)) = some r := H
      have A7 := ze.mk A70
      clear A70
      by_cases c8 : 0 ≤ Ja
      ·rw [if_pos c8] at H
       have c8b0 : decide (0 ≤ Ja) = true := decide_eq_true c8
       clear c8
       obtain ⟨Gp, JC⟩ : ∃ y_ : List (S82), y_ = (Jb.set (Ja : Int).toNat (⟨(zn Jb Ja).f0, Ju, (zn Jb Ja).f2, (zn Jb Ja).f3⟩ : S82)) := ⟨_, rfl⟩
       replace H : (plan_parts.l0 k1 Gp (wrap64 (Ja + 1))) = some r := by first | (rw [JC]; with_reducible exact H) | (have H2_ := (Option.bind_some _ _).symm.trans H; rw [JC]; with_reducible exact H2_) | (have H2_ := (Option.bind_some _ _).symm.trans H; with_reducible exact H2_) | with_reducible exact H | (rw [JC]; exact H) | exact H
       have GR := ze.mk JC
       clear JC
       have H' := ze.mk H
       clear H
       obtain ⟨Ao10, co10, eo10⟩ := Kd.yc Jp.o
       subst eo10
       have Gx : 0 ≤ ((ji4) : Int) := of_decide_eq_true (by first | (with_reducible assumption) | assumption)
       have Gt : (ji4) < (Jb.length : Int) := of_decide_eq_true (by first | (with_reducible assumption) | assumption)
       obtain ⟨ad105, e105, JO, JN, JM, JL⟩ := at_T82 (Kd.zQ Jp.o).2.2 (ji4) Gx Gt
       cases e105
       replace Gx := eq_true Gx
       replace Gt := eq_true Gt
       go_wp2_with (first | ((with_reducible refine zN (f := 48) rfl ?_); refine yh (some 22) rfl rfl Tryz.func48 (by kernel_rfl) rfl #[.agg #[.int .i64 ((zn Jb (ji4)).f0), .int .i64 ((zn Jb (ji4)).f1), .int .i64 ((zn Jb (ji4)).f2), .int .i64 ((zn Jb (ji4)).f3)]] rfl (by (try simp only [List.map_toArray, List.map_cons, List.map_nil]); first | done | (simp only [Gl]; rfl) | rfl | (simp only [List.length_drop, List.length_take]; rfl)) ?_; (with_reducible refine (plan_part_end.calls ((zn Jb (ji4)).f0) ((zn Jb (ji4)).f1) ((zn Jb (ji4)).f2) ((zn Jb (ji4)).f3) Ju _ A7.o).mono ?_); rintro e w11 ⟨rfl, hb⟩; refine ⟨_, rfl, ?_⟩; have n0_ := ze.mk (Kd.zS (by (with_reducible repeat (first | apply Kd.zz | apply Kd.zA | apply Kd.zF)); exact Jp.o) hb); have n1_ := ze.mk (zu (by repeat (first | (with_reducible first | exact HB.o | apply zl | apply zf | apply zk) | exact HB.o)) hb); clear Jp; clear HB; have Jp := n0_; have HB := n1_; clear n0_ n1_; (try clear hb); (try clear hb2); (try clear hk); (try clear hi); have p9 : 0 ≤ (Ja : Int) := of_decide_eq_true (by first | (with_reducible assumption) | assumption); have q9 : (Ja : Int) < ((Jb.length : Int) : Int) := of_decide_eq_true (by first | (with_reducible assumption) | assumption); obtain ⟨go9, co9, eo9, gb9, gl9, cl9, HG9⟩ := Kd.Yh Jp.o (by omega); (first | cases eo9 | (injection eo9 with ea_ en_ ec_; (first | subst ea_ | (injection ea_ with ea_; subst ea_)); subst ec_; clear en_)); have GB9 := ze.mk gb9; have GG9 := ze.mk HG9; clear gb9 gl9 HG9; (first | simp only [add_plain] at JO | skip); (first | simp only [add_plain] at JN | skip); (first | simp only [add_plain] at JM | skip); (first | simp only [add_plain] at JL | skip); obtain ⟨ce9, hcl9, hM9, Ga, J3⟩ := Kd.R_elem Jp.o z82 (Ja : Int) p9 q9; obtain rfl := k82_openM hM9; have hx9_0 : w11.cell? ⟨go9, (Ja : Int).toNat * 4, none⟩ = some (.int .i64 ((zn Jb Ja).f0)) := Ga 0 _ rfl; have hx9_1 : w11.cell? ⟨go9, (Ja : Int).toNat * 4 + 1, none⟩ = some (.int .i64 ((zn Jb Ja).f1)) := Ga 1 _ rfl; have hx9_2 : w11.cell? ⟨go9, (Ja : Int).toNat * 4 + 2, none⟩ = some (.int .i64 ((zn Jb Ja).f2)) := Ga 2 _ rfl; have hx9_3 : w11.cell? ⟨go9, (Ja : Int).toNat * 4 + 3, none⟩ = some (.int .i64 ((zn Jb Ja).f3)) := Ga 3 _ rfl; have hf9_0 : w11.frozen? ⟨go9, (Ja : Int).toNat * 4, none⟩ = false := J3 0; have hf9_1 : w11.frozen? ⟨go9, (Ja : Int).toNat * 4 + 1, none⟩ = false := J3 1; have hf9_2 : w11.frozen? ⟨go9, (Ja : Int).toNat * 4 + 2, none⟩ = false := J3 2; have hf9_3 : w11.frozen? ⟨go9, (Ja : Int).toNat * 4 + 3, none⟩ = false := J3 3; clear hcl9 Ga J3 hM9; replace p9 := eq_true p9; replace q9 := eq_true q9; have HX12 := ze.mk (show Kd.R k82 82 w11 w.heap.size (fun _ => True) (.slice (some ⟨go9, 0, none⟩) Jb.length co10) Jb from (by (with_reducible repeat (first | apply Kd.zz | apply Kd.zA | apply Kd.zF)); exact Jp.o)); obtain ⟨ce12, J9, hM12, JQ, J4⟩ := Kd.R_elem HX12.o z82 (Ja : Int) (of_decide_eq_true (by first | (with_reducible assumption) | assumption)) (by have h_ : (Ja : Int) < ((Jb.length : Int) : Int) := of_decide_eq_true (by first | (with_reducible assumption) | assumption); first | exact h_ | (have e_ := (Kd.zQ Jp.o).1; omega) | simpa using h_); obtain rfl := k82_openM hM12; have GV := Kd.R_seg HX12.o (Ja : Int) (of_decide_eq_true (by first | (with_reducible assumption) | assumption)) (by have h_ : (Ja : Int) < ((Jb.length : Int) : Int) := of_decide_eq_true (by first | (with_reducible assumption) | assumption); first | exact h_ | (have e_ := (Kd.zQ Jp.o).1; omega) | simpa using h_) (seg := [.int .i64 Ju]) (j := 1) J9 JQ (show 2 ≤ 4 from by decide) (x' := (⟨(zn Jb Ja).f0, Ju, (zn Jb Ja).f2, (zn Jb Ja).f3⟩ : S82)) (YS _ _ _ (⟨(zn Jb Ja).f0, Ju, (zn Jb Ja).f2, (zn Jb Ja).f3⟩ : S82) ) (fun _ hk => hk); have JZ := JQ 1 _ rfl; (try simp only [show (k82).sz = 4 from rfl, Nat.mul_one, Nat.add_zero] at JZ); have J8 := J4 1; (try simp only [show (k82).sz = 4 from rfl, Nat.mul_one, Nat.add_zero] at J8); clear J9 JQ J4 hM12) | ((with_reducible refine zJ (t := 3) (p := 24) rfl ?_); refine zH (t := 3) (p := 24) (v := ?vo_w13) (w1 := (w11.setCell ⟨go9, (Ja : Int).toNat * 4 + 1, none⟩ (.int .i64 Ju))) ?hg ?ho ?hn ?hr ?_; (case ho => rfl); (case hg => rfl); (case hn => rfl); (case hr => first | (go_simp; done) | (go_simp; rfl)); intro w13 hw; have hg : w11.grownBy w13 (some go9) := (by rw [hw]; exact GV.2); have hp_ : Kd.R k82 82 w13 w.heap.size (fun _ => True) (.slice (some ⟨go9, 0, none⟩) Jb.length co10) Gp := (by rw [hw, GR.o]; exact GV.1); clear GV; have n0_ := ze.mk (hp_); have n1_ := ze.mk ((by rw [hw]; exact zm (HB.o) GB9.o : Below w.heap.size w w13)); clear Jp; clear HB; have Jp := n0_; have HB := n1_; clear n0_ n1_; clear hg hw hp_))
       go_roundg k1
       case measure => have := HK1.o; omega
       case rel => exact ⟨(Gp), (wrap64 (Ja + 1)), (by first | rfl | (simp; done) | (simp [*]; done) | kernel_rfl), H', ⟨by have := HK1.o; omega⟩, ⟨by (with_reducible repeat (first | apply Kd.zz | apply Kd.zA | apply Kd.zF)); exact Jp.o⟩, ⟨by repeat (first | (with_reducible first | exact HB.o | apply zl | apply zf | apply zk) | exact HB.o)⟩⟩
      ·rw [if_neg c8] at H
       exact absurd H (by simp)
     ·rw [if_neg c6] at H
      exact absurd H (by simp)
    ·rw [if_neg c5] at H
     exact absurd H (by simp)
   ·rw [if_neg c3] at H
    have c3b0 : decide (Ja < (Jb.length : Int)) = false := decide_eq_false c3
    clear c3
    obtain rfl := Option.some.inj H
    obtain ⟨Ao14, co14, eo14⟩ := Kd.yc Jp.o
    subst eo14
    go_wp2
    go_ret
    exact ⟨_, by first | rfl | (simp [zy, zx] <;> rfl) | (simp [*, zy, zx] <;> rfl), by (with_reducible repeat (first | apply Kd.zz | apply Kd.zA | apply Kd.zF)); exact Jp.o, by repeat (first | (with_reducible first | exact HB.o | apply zl | apply zf | apply zk) | exact HB.o)⟩

/-! ### plan_of: function 47 -/
def plan_of.f (k : Nat) (a0 : Int) : Option (Int × Int × Int × Int) := (plan_parts.f k).bind fun t109 => (if 0 ≤ (wrap64 (a0 - 1)) then (if (wrap64 (a0 - 1)) < (t109.length : Int) then (some ((zn t109 (wrap64 (a0 - 1))).f0, (zn t109 (wrap64 (a0 - 1))).f1, (zn t109 (wrap64 (a0 - 1))).f2, (zn t109 (wrap64 (a0 - 1))).f3)) else (none)) else (none))
set_option maxHeartbeats 8000000 in
set_option maxRecDepth 100000 in
theorem plan_of.calls (k : Nat) (a0 : Int) (r1 : Int) (r2 : Int) (r3 : Int) (r4 : Int) (w : World) (h : plan_of.f k a0 = some (r1, r2, r3, r4)) :
  Calls Tryz.prog 47 #[.int .i64 a0] w fun e w' => e = .returned (.agg #[.int .i64 r1, .int .i64 r2, .int .i64 r3, .int .i64 r4]) ∧ Below w.heap.size w w' := by
 have hu82 := Tryz.underlying82
 have HB := ze.mk (Below.refl w.heap.size w)
 have H : ((plan_parts.f k).bind fun t109 => (if 0 ≤ (wrap64 (a0 - 1)) then (if (wrap64 (a0 - 1)) < (t109.length : Int) then (some ((zn t109 (wrap64 (a0 - 1))).f0, (zn t109 (wrap64 (a0 - 1))).f1, (zn t109 (wrap64 (a0 - 1))).f2, (zn t109 (wrap64 (a0 - 1))).f3)) else (none)) else (none))) = some (r1, r2, r3, r4) := h
 clear h
 replace H := Option.bind_eq_some_iff.mp H
 obtain ⟨t109, A20, H⟩ := H
 replace H : (if 0 ≤ (wrap64 (a0 - 1)) then (if (wrap64 (a0 - 1)) < (t109.length : Int) then (some ((zn t109 (wrap64 (a0 - 1))).f0, (zn t109 (wrap64 (a0 - 1))).f1, (zn t109 (wrap64 (a0 - 1))).f2, (zn t109 (wrap64 (a0 - 1))).f3)) else (none)) else (none)) = some (r1, r2, r3, r4) := H
 have A2 := ze.mk A20
 clear A20
 obtain ⟨ji3, J2⟩ : ∃ j_ : Int, (wrap64 (a0 - 1)) = j_ := ⟨_, rfl⟩
 replace H : (if 0 ≤ (ji3) then (if (ji3) < (t109.length : Int) then (some ((zn t109 (ji3)).f0, (zn t109 (ji3)).f1, (zn t109 (ji3)).f2, (zn t109 (ji3)).f3)) else (none)) else (none)) = some (r1, r2, r3, r4) := by first | (rw [J2] at H; exact H) | (simp only [J2] at H ⊢; exact H)
 (try rw [J2] at A2)
 have hji3w : (IntKind.i64.wrap (a0 - 1)) = ji3 := (i64_w _).trans J2
 by_cases c4 : 0 ≤ (ji3)
 ·rw [if_pos c4] at H
  have c4b0 : decide (0 ≤ (ji3)) = true := decide_eq_true c4
  clear c4
  by_cases c5 : (ji3) < (t109.length : Int)
  ·rw [if_pos c5] at H
   have c5b0 : decide ((ji3) < (t109.length : Int)) = true := decide_eq_true c5
   clear c5
   simp only [Option.some.injEq, Prod.mk.injEq] at H
   obtain ⟨rfl, rfl, rfl, rfl⟩ := H
   go_enter Tryz.func47, Tryz.ntmps47
   go_wp2_with (first | ((with_reducible refine zD (N := 2) rfl ?_); refine zC ?hg (N := 2) ?hd (cs := #[.int .i64 0, .int .i64 0, .int .i64 0, .int .i64 0]) (t := 82) ?hr ?_; (case hd => rfl); (case hg => rfl); (case hr => first | (go_simp; done) | (go_simp; rfl)); intro Jc hg w6 hbox hb; have n0_ := ze.mk (zu (by repeat (first | (with_reducible first | exact HB.o | apply zl | apply zf | apply zk) | exact HB.o)) hb); have n1_ := ze.mk (hbox); have n2_ := ze.mk ((by rw [hg]; exact (zt (by repeat (first | (with_reducible first | exact HB.o | apply zl | apply zf | apply zk) | exact HB.o))) : w.heap.size ≤ Jc)); have n3_ := ze.mk ((by rw [hg]; exact (zt (by repeat (first | (with_reducible first | exact HB.o | apply zl | apply zf | apply zk) | exact HB.o))) : w.heap.size ≤ Jc)); clear HB; have HB := n0_; have Je := n1_; have GW108 := n2_; have JK := n3_; clear n0_ n1_ n2_ n3_; clear hb hbox hg) | ((with_reducible refine zN (f := 65) rfl ?_); refine yh (some 3) rfl rfl Tryz.func65 (by kernel_rfl) rfl #[] rfl (by (try simp only [List.map_toArray, List.map_cons, List.map_nil]); first | done | rfl | (simp only [List.length_drop, List.length_take]; rfl)) ?_; (with_reducible refine (plan_parts.calls k  t109 _ A2.o).mono ?_); rintro e w7 ⟨v110, rfl, ho0, hb⟩; refine ⟨_, rfl, ?_⟩; have n0_ := ze.mk (Kd.yf (Kd.R_newB ho0 (g := Jc) (o := .cells #[.int .i64 0, .int .i64 0, .int .i64 0, .int .i64 0] 82 (0, 0)) (by (with_reducible repeat (first | refine zg ?_ _ | refine zi ?_ | refine zh ?_ _)); exact Je.o)) (zt (by repeat (first | (with_reducible first | exact HB.o | apply zl | apply zf | apply zk | refine zm ?_ JK.o) | exact HB.o)))); have n1_ := ze.mk (zK (g := Jc) (o := .cells #[.int .i64 0, .int .i64 0, .int .i64 0, .int .i64 0] 82 (0, 0)) (by (with_reducible repeat (first | refine zg ?_ _ | refine zi ?_ | refine zh ?_ _)); exact Je.o) hb); have n2_ := ze.mk (zu (by repeat (first | (with_reducible first | exact HB.o | apply zl | apply zf | apply zk | refine zm ?_ JK.o) | exact HB.o)) hb); clear Je; clear HB; have JI := n0_; have Je := n1_; have HB := n2_; clear n0_ n1_ n2_; (try clear hb); (try clear hb2); (try clear hk); (try clear hi); (try clear ho0); obtain ⟨Ao8, co8, eo8⟩ := Kd.yc JI.o; subst eo8; have Gw : 0 ≤ ((ji3) : Int) := of_decide_eq_true (by first | (with_reducible assumption) | assumption); have Gs : (ji3) < (t109.length : Int) := of_decide_eq_true (by first | (with_reducible assumption) | assumption); obtain ⟨GJ, e112, GG, GD, Gz, Gy⟩ := at_T82 (Kd.zQ JI.o).2.2 (ji3) Gw Gs; cases e112; replace Gw := eq_true Gw; replace Gs := eq_true Gs; have hcz9_0 : w7.cell? ⟨Jc, 0, none⟩ = some (.int .i64 0) := (zb Je.o 0).trans rfl; have hcz9_1 : w7.cell? ⟨Jc, 1, none⟩ = some (.int .i64 0) := (zb Je.o 1).trans rfl; have hcz9_2 : w7.cell? ⟨Jc, 2, none⟩ = some (.int .i64 0) := (zb Je.o 2).trans rfl; have hcz9_3 : w7.cell? ⟨Jc, 3, none⟩ = some (.int .i64 0) := (zb Je.o 3).trans rfl; have hfz9_0 := za Je.o 0; have hfz9_1 := za Je.o 1; have hfz9_2 := za Je.o 2; have hfz9_3 := za Je.o 3) | ((with_reducible refine zJ (t := 82) (p := 2) rfl ?_); refine zH (t := 82) (p := 2) (v := ?vo_w10) (w1 := ((((w7.setCell ⟨Jc, 0, none⟩ (.int .i64 ((zn t109 (ji3)).f0))).setCell ⟨Jc, 1, none⟩ (.int .i64 ((zn t109 (ji3)).f1))).setCell ⟨Jc, 2, none⟩ (.int .i64 ((zn t109 (ji3)).f2))).setCell ⟨Jc, 3, none⟩ (.int .i64 ((zn t109 (ji3)).f3)))) ?hg ?ho ?hn ?hr ?_; (case ho => rfl); (case hg => rfl); (case hn => rfl); (case hr => exact zM rfl rfl rfl (zP (P := Tryz.prog) (o := 0) (cur := #[.int .i64 0, .int .i64 0, .int .i64 0, .int .i64 0]) 82 (.agg #[.int .i64 ((zn t109 (ji3)).f0), .int .i64 ((zn t109 (ji3)).f1), .int .i64 ((zn t109 (ji3)).f2), .int .i64 ((zn t109 (ji3)).f3)]) [.int .i64 ((zn t109 (ji3)).f0), .int .i64 ((zn t109 (ji3)).f1), .int .i64 ((zn t109 (ji3)).f2), .int .i64 ((zn t109 (ji3)).f3)] (show _ = some (Obj.cells #[.int .i64 0, .int .i64 0, .int .i64 0, .int .i64 0] 82 (0, 0)) from (by (with_reducible repeat (first | refine zg ?_ _ | refine zi ?_ | refine zh ?_ _)); exact Je.o)) rfl (by kernel_rfl) (show 4 ≤ 4 by decide) (by intro q_ hq_; simp only [List.mem_cons, List.not_mem_nil, or_false] at hq_; rcases hq_ with rfl | rfl | rfl | rfl <;> rfl))); intro w10 hw; have n0_ : ze (Kd.R k82 82 w10 w.heap.size (fun k_ => k_ ≠ Jc) (.slice (some GJ) t109.length co8) t109) := ⟨(by rw [hw]; exact (by (with_reducible repeat (first | apply Kd.zz | apply Kd.zA | apply Kd.zF)); exact Kd.zT (Kd.R_far (p := ⟨Jc, 3, none⟩) (Kd.R_far (p := ⟨Jc, 2, none⟩) (Kd.R_far (p := ⟨Jc, 1, none⟩) (Kd.R_far (p := ⟨Jc, 0, none⟩) (Kd.zT JI.o (fun k_ hk => (⟨hk, hk.2⟩ : _ ∧ k_ ≠ Jc))) (fun _ hk => hk.2) (.int .i64 ((zn t109 (ji3)).f0))) (fun _ hk => hk.2) (.int .i64 ((zn t109 (ji3)).f1))) (fun _ hk => hk.2) (.int .i64 ((zn t109 (ji3)).f2))) (fun _ hk => hk.2) (.int .i64 ((zn t109 (ji3)).f3))) (fun _ hk => hk.1.2)))⟩; have n1_ : ze (w10.heap[Jc]? = some (.cells #[.int .i64 ((zn t109 (ji3)).f0), .int .i64 ((zn t109 (ji3)).f1), .int .i64 ((zn t109 (ji3)).f2), .int .i64 ((zn t109 (ji3)).f3)] 82 (0, 0))) := ⟨(by rw [hw]; exact (by (with_reducible repeat (first | refine zg ?_ _ | refine zi ?_ | refine zh ?_ _)); refine zq (cs := #[.int .i64 ((zn t109 (ji3)).f0), .int .i64 ((zn t109 (ji3)).f1), .int .i64 ((zn t109 (ji3)).f2), .int .i64 0]) ?_ 3 _ rfl; (with_reducible repeat (first | refine zg ?_ _ | refine zi ?_ | refine zh ?_ _)); refine zq (cs := #[.int .i64 ((zn t109 (ji3)).f0), .int .i64 ((zn t109 (ji3)).f1), .int .i64 0, .int .i64 0]) ?_ 2 _ rfl; (with_reducible repeat (first | refine zg ?_ _ | refine zi ?_ | refine zh ?_ _)); refine zq (cs := #[.int .i64 ((zn t109 (ji3)).f0), .int .i64 0, .int .i64 0, .int .i64 0]) ?_ 1 _ rfl; (with_reducible repeat (first | refine zg ?_ _ | refine zi ?_ | refine zh ?_ _)); refine zq (cs := #[.int .i64 0, .int .i64 0, .int .i64 0, .int .i64 0]) ?_ 0 _ rfl; (with_reducible repeat (first | refine zg ?_ _ | refine zi ?_ | refine zh ?_ _)); exact Je.o))⟩; have n2_ : ze (Below w.heap.size w w10) := ⟨(by rw [hw]; exact (by repeat (first | (with_reducible first | exact HB.o | apply zl | apply zf | apply zk | refine zm ?_ JK.o) | exact HB.o)))⟩; clear hw; clear JI; clear Je; clear HB; have JI := n0_; have Je := n1_; have HB := n2_; clear n0_ n1_ n2_))
   refine bodyPost_ret (results_cell_row rfl _ _ Jc 82 #[.int .i64 ((zn t109 (ji3)).f0), .int .i64 ((zn t109 (ji3)).f1), .int .i64 ((zn t109 (ji3)).f2), .int .i64 ((zn t109 (ji3)).f3)] (0, 0) _ rfl (by (with_reducible repeat (first | refine zg ?_ _ | refine zi ?_ | refine zh ?_ _)); exact Je.o) Tryz.underlying82 rfl (by kernel_rfl)) rfl ?_
   exact ⟨by first | rfl | (simp [zy, zx] <;> rfl) | (simp only [← J2]; first | rfl | (simp [zy, zx] <;> rfl)) | (simp [*, zy, zx] <;> rfl), by repeat (first | (with_reducible first | exact HB.o | apply zl | apply zf | apply zk | refine zm ?_ JK.o) | exact HB.o)⟩
  ·rw [if_neg c5] at H
   exact absurd H (by simp)
 ·rw [if_neg c4] at H
  exact absurd H (by simp)

/-! ### plan_Size: function 21 -/
def plan_Size.f (k : Nat)  : Option (Int) := (plan_of.f k 5).bind fun Jm => ((plan_part_end.f Jm.1 Jm.2.1 Jm.2.2.1 Jm.2.2.2).bind fun t117 => (some t117))
set_option maxHeartbeats 8000000 in
set_option maxRecDepth 100000 in
theorem plan_Size.calls (k : Nat)  (r : Int) (w : World) (h : plan_Size.f k  = some r) :
  Calls Tryz.prog 21 #[] w fun e w' => e = .returned (.int .i64 r) ∧ Below w.heap.size w w' := by
 have HB := ze.mk (Below.refl w.heap.size w)
 have H : ((plan_of.f k 5).bind fun Jm => ((plan_part_end.f Jm.1 Jm.2.1 Jm.2.2.1 Jm.2.2.2).bind fun t117 => (some t117))) = some r := h
 clear h
 replace H := Option.bind_eq_some_iff.mp H
 obtain ⟨⟨Gj, Gi, Gh, t116⟩, A10, H⟩ := H
 replace H : ((plan_part_end.f Gj Gi Gh t116).bind fun t117 => (some t117)) = some r := H
 have A1 := ze.mk A10
 clear A10
 replace H := Option.bind_eq_some_iff.mp H
 obtain ⟨t117, A20, H⟩ := H
 replace H : (some t117) = some r := H
 have A2 := ze.mk A20
 clear A20
 obtain rfl := Option.some.inj H
 go_enter Tryz.func21, Tryz.ntmps21
 go_wp2_with (first | ((with_reducible refine zN (f := 47) rfl ?_); refine yh (some 1) rfl rfl Tryz.func47 (by kernel_rfl) rfl #[.int .i64 5] rfl (by (try simp only [List.map_toArray, List.map_cons, List.map_nil]); first | done | rfl | (simp only [List.length_drop, List.length_take]; rfl)) ?_; (with_reducible refine (plan_of.calls k 5 Gj Gi Gh t116 _ A1.o).mono ?_); rintro e w3 ⟨rfl, hb⟩; refine ⟨_, rfl, ?_⟩; have n0_ := ze.mk (zu (by repeat (first | (with_reducible first | exact HB.o | apply zl | apply zf | apply zk) | exact HB.o)) hb); clear HB; have HB := n0_; clear n0_; (try clear hb); (try clear hb2); (try clear hk); (try clear hi)) | ((with_reducible refine zN (f := 48) rfl ?_); refine yh (some 2) rfl rfl Tryz.func48 (by kernel_rfl) rfl #[.agg #[.int .i64 Gj, .int .i64 Gi, .int .i64 Gh, .int .i64 t116]] rfl (by (try simp only [List.map_toArray, List.map_cons, List.map_nil]); first | done | rfl | (simp only [List.length_drop, List.length_take]; rfl)) ?_; (with_reducible refine (plan_part_end.calls Gj Gi Gh t116 t117 _ A2.o).mono ?_); rintro e w4 ⟨rfl, hb⟩; refine ⟨_, rfl, ?_⟩; have n0_ := ze.mk (zu (by repeat (first | (with_reducible first | exact HB.o | apply zl | apply zf | apply zk) | exact HB.o)) hb); clear HB; have HB := n0_; clear n0_; (try clear hb); (try clear hb2); (try clear hk); (try clear hi)))
 go_ret
 exact ⟨by first | rfl | (simp [zy, zx] <;> rfl) | (simp [*, zy, zx] <;> rfl), by repeat (first | (with_reducible first | exact HB.o | apply zl | apply zf | apply zk) | exact HB.o)⟩

/-! ### plan_Head: function 18 -/
def plan_Head.f (k : Nat)  : Option (List Int) := if 8 ≤ 35184372088832 then ((some (List.replicate 8 0 : List Int)).bind fun Jf => ((plan_Size.f k).bind fun Jr => (if 0 < (Jf.length : Int) then (if 1 < (Jf.length : Int) then (some ((Jf.set (0 : Int).toNat 7021221306412823411).set (1 : Int).toNat (IntKind.u64.wrap (Jr)))) else (none)) else (none)))) else (none)
set_option maxHeartbeats 8000000 in
set_option maxRecDepth 100000 in
theorem plan_Head.calls (k : Nat)  (r : List Int) (w : World) (h : plan_Head.f k  = some r) :
  Calls Tryz.prog 18 #[] w fun e w' => ∃ v0_ : Value, e = .returned (v0_) ∧ Kd.R (Kd.int .u64) 34 w' w.heap.size (fun _ => True) v0_ r ∧ Below w.heap.size w w' := by
 have HB := ze.mk (Below.refl w.heap.size w)
 have H : (if 8 ≤ 35184372088832 then ((some (List.replicate 8 0 : List Int)).bind fun Jf => ((plan_Size.f k).bind fun Jr => (if 0 < (Jf.length : Int) then (if 1 < (Jf.length : Int) then (some ((Jf.set (0 : Int).toNat 7021221306412823411).set (1 : Int).toNat (IntKind.u64.wrap (Jr)))) else (none)) else (none)))) else (none)) = some r := h
 clear h
 have H1 : ((some (List.replicate 8 0 : List Int)).bind fun Jf => ((plan_Size.f k).bind fun Jr => (if 0 < (Jf.length : Int) then (if 1 < (Jf.length : Int) then (some ((Jf.set (0 : Int).toNat 7021221306412823411).set (1 : Int).toNat (IntKind.u64.wrap (Jr)))) else (none)) else (none)))) = some r := by rw [if_pos (by decide)] at H; exact H
 clear H
 have H := H1
 clear H1
 obtain ⟨Jf, JB⟩ : ∃ y_ : List Int, y_ = (List.replicate 8 0) := ⟨_, rfl⟩
 replace H : ((plan_Size.f k).bind fun Jr => (if 0 < (Jf.length : Int) then (if 1 < (Jf.length : Int) then (some ((Jf.set (0 : Int).toNat 7021221306412823411).set (1 : Int).toNat (IntKind.u64.wrap (Jr)))) else (none)) else (none))) = some r := by first | (rw [JB]; with_reducible exact H) | (have H2_ := (Option.bind_some _ _).symm.trans H; rw [JB]; with_reducible exact H2_) | (have H2_ := (Option.bind_some _ _).symm.trans H; with_reducible exact H2_) | with_reducible exact H | (rw [JB]; exact H) | exact H
 have Gd := ze.mk JB
 clear JB
 replace H := Option.bind_eq_some_iff.mp H
 obtain ⟨Jr, A10, H⟩ := H
 replace H : (if 0 < (Jf.length : Int) then (if 1 < (Jf.length : Int) then (some ((Jf.set (0 : Int).toNat 7021221306412823411).set (1 : Int).toNat (IntKind.u64.wrap (Jr)))) else (none)) else (none)) = some r := H
 have A1 := ze.mk A10
 clear A10
 by_cases c2 : 0 < (Jf.length : Int)
 ·rw [if_pos c2] at H
  have c2b0 : decide (0 < (Jf.length : Int)) = true := decide_eq_true c2
  have c2b1 : decide (0 < Jf.length) = true := decide_eq_true (by omega)
  clear c2
  obtain ⟨Gn, JA⟩ : ∃ y_ : List Int, y_ = (Jf.set (0 : Int).toNat 7021221306412823411) := ⟨_, rfl⟩
  replace H : (if 1 < (Jf.length : Int) then (some (Gn.set (1 : Int).toNat (IntKind.u64.wrap (Jr)))) else (none)) = some r := by first | (rw [JA]; with_reducible exact H) | (have H2_ := (Option.bind_some _ _).symm.trans H; rw [JA]; with_reducible exact H2_) | (have H2_ := (Option.bind_some _ _).symm.trans H; with_reducible exact H2_) | with_reducible exact H | (rw [JA]; exact H) | exact H
  have GQ := ze.mk JA
  clear JA
  by_cases c4 : 1 < (Jf.length : Int)
  ·rw [if_pos c4] at H
   have c4b0 : decide (1 < (Jf.length : Int)) = true := decide_eq_true c4
   have c4b1 : decide (1 < Jf.length) = true := decide_eq_true (by omega)
   clear c4
   obtain ⟨y123, Jz⟩ : ∃ y_ : List Int, y_ = (Gn.set (1 : Int).toNat (IntKind.u64.wrap (Jr))) := ⟨_, rfl⟩
   replace H : (some y123) = some r := by first | (rw [Jz]; with_reducible exact H) | (have H2_ := (Option.bind_some _ _).symm.trans H; rw [Jz]; with_reducible exact H2_) | (have H2_ := (Option.bind_some _ _).symm.trans H; with_reducible exact H2_) | with_reducible exact H | (rw [Jz]; exact H) | exact H
   have GM := ze.mk Jz
   clear Jz
   obtain rfl := Option.some.inj H
   go_enter Tryz.func18, Tryz.ntmps18
   go_wp2_with (first | ((with_reducible refine zD (N := 2) rfl ?_); refine Kd.YX (Kd.int .u64) _ 34 rfl (N := 2) rfl 24 _ _ rfl 8 rfl rfl Tryz.underlying24 (.int .u64 0) 8 YW rfl (by decide) (by omega) 0 (ok := fun _ => True) (okp := fun _ => True) rfl (fun _ hk => hk) trivial (by omega) (by omega) (Below.refl _ _) (Nat.le_refl _) ?_; intro v119 w6 ho7 hb hg_ hnew_; clear hg_ hnew_; (first | rw [← Gd.o] at ho7 | (simp only [Int.reduceToNat] at ho7; rw [← Gd.o] at ho7)); have n0_ := ze.mk (Kd.yf ho7 (zt (by repeat (first | (with_reducible first | exact HB.o | apply zl | apply zf | apply zk) | exact HB.o)))); have n1_ := ze.mk (zu (by repeat (first | (with_reducible first | exact HB.o | apply zl | apply zf | apply zk) | exact HB.o)) hb); clear HB; have Jg := n0_; have HB := n1_; clear n0_ n1_; clear hb ho7) | ((with_reducible refine zN (f := 21) rfl ?_); refine yh (some 5) rfl rfl Tryz.func21 (by kernel_rfl) rfl #[] rfl (by (try simp only [List.map_toArray, List.map_cons, List.map_nil]); first | done | rfl | (simp only [List.length_drop, List.length_take]; rfl)) ?_; (with_reducible refine (plan_Size.calls k  Jr _ A1.o).mono ?_); rintro e w8 ⟨rfl, hb⟩; refine ⟨_, rfl, ?_⟩; have n0_ := ze.mk (Kd.zS (by (with_reducible repeat (first | apply Kd.zz | apply Kd.zA | apply Kd.zF)); exact Jg.o) hb); have n1_ := ze.mk (zu (by repeat (first | (with_reducible first | exact HB.o | apply zl | apply zf | apply zk) | exact HB.o)) hb); clear Jg; clear HB; have Jg := n0_; have HB := n1_; clear n0_ n1_; (try clear hb); (try clear hb2); (try clear hk); (try clear hi); have p3 : 0 ≤ (0 : Int) := (by omega); have q3 : (0 : Int) < ((Jf.length : Int) : Int) := of_decide_eq_true (by first | (with_reducible assumption) | assumption); have qi3 : (0 < Jf.length) = True := eq_true (by omega); obtain ⟨go3, co3, eo3, gb3, gl3, cl3, HG3⟩ := Kd.Yh Jg.o (by omega); (first | cases eo3 | (injection eo3 with ea_ en_ ec_; (first | subst ea_ | (injection ea_ with ea_; subst ea_)); subst ec_; clear en_)); have GB3 := ze.mk gb3; have GG3 := ze.mk HG3; clear gb3 gl3 HG3; obtain ⟨JX, J6⟩ := Kd.zY 0 Jg.o (0 : Int) p3 q3; (try rw [show ((0 : Int)).toNat = 0 from rfl] at JX); (try simp only [Nat.reduceMul, Nat.zero_mul, Nat.zero_add, Nat.reduceAdd] at JX); (try rw [show ((0 : Int)).toNat = 0 from rfl] at J6); (try simp only [Nat.reduceMul, Nat.zero_mul, Nat.zero_add, Nat.reduceAdd] at J6); replace p3 := eq_true p3; replace q3 := eq_true q3; obtain ⟨hy9_, hz9_⟩ := Kd.zY 0 Jg.o (0 : Int) (by omega) (of_decide_eq_true (by first | (with_reducible assumption) | assumption)); (try simp only [Int.reduceToNat, Int.toNat_zero, Int.toNat_ofNat, Nat.reduceMul, Nat.zero_mul, Nat.zero_add] at hy9_ hz9_); (try rw [show ((0 : Int)).toNat = 0 from rfl] at hy9_); (try rw [show ((0 : Int)).toNat = 0 from rfl] at hz9_); have HP9 := Kd.Zn Jg.o (0 : Int) 7021221306412823411) | ((with_reducible refine zJ (t := 34) (p := 7) rfl ?_); refine zH (t := 34) (p := 7) (v := ?vo_w10) (w1 := (w8.setCell ⟨go3, (0 : Int).toNat, none⟩ (.int .u64 7021221306412823411))) ?hg ?ho ?hn ?hr ?_; (case ho => rfl); (case hg => rfl); (case hn => rfl); (case hr => first | (go_simp; done) | (go_simp; rfl)); intro w10 hw; have hg : w8.grownBy w10 (some go3) := (by rw [hw]; exact HP9.2); have hp_ : Kd.R (Kd.int .u64) 34 w10 w.heap.size (fun _ => True) (.slice (some ⟨go3, 0, none⟩) Jf.length co3) Gn := (by rw [hw, GQ.o]; exact HP9.1); clear HP9; have n0_ := ze.mk (hp_); have n1_ := ze.mk ((by rw [hw]; exact zm (HB.o) GB3.o : Below w.heap.size w w10)); clear Jg; clear HB; have Jg := n0_; have HB := n1_; clear n0_ n1_; clear hg hw hp_; have p5 : 0 ≤ (1 : Int) := (by omega); have q5 : (1 : Int) < ((Jf.length : Int) : Int) := of_decide_eq_true (by first | (with_reducible assumption) | assumption); have qi5 : (1 < Jf.length) = True := eq_true (by omega); obtain ⟨JW, J5⟩ := Kd.zY 0 Jg.o (1 : Int) p5 q5; (try rw [show ((1 : Int)).toNat = 1 from rfl] at JW); (try simp only [Nat.reduceMul, Nat.zero_mul, Nat.zero_add, Nat.reduceAdd] at JW); (try rw [show ((1 : Int)).toNat = 1 from rfl] at J5); (try simp only [Nat.reduceMul, Nat.zero_mul, Nat.zero_add, Nat.reduceAdd] at J5); replace p5 := eq_true p5; replace q5 := eq_true q5; obtain ⟨hy11_, hz11_⟩ := Kd.zY 0 Jg.o (1 : Int) (by omega) (of_decide_eq_true (by first | (with_reducible assumption) | assumption)); (try simp only [Int.reduceToNat, Int.toNat_zero, Int.toNat_ofNat, Nat.reduceMul, Nat.zero_mul, Nat.zero_add] at hy11_ hz11_); (try rw [show ((1 : Int)).toNat = 1 from rfl] at hy11_); (try rw [show ((1 : Int)).toNat = 1 from rfl] at hz11_); have GX := Kd.Zn Jg.o (1 : Int) (IntKind.u64.wrap (Jr))) | ((with_reducible refine zJ (t := 34) (p := 8) rfl ?_); refine zH (t := 34) (p := 8) (v := ?vo_w12) (w1 := (w10.setCell ⟨go3, (1 : Int).toNat, none⟩ (.int .u64 (IntKind.u64.wrap (Jr))))) ?hg ?ho ?hn ?hr ?_; (case ho => rfl); (case hg => rfl); (case hn => rfl); (case hr => first | (go_simp; done) | (go_simp; rfl)); intro w12 hw; have hg : w10.grownBy w12 (some go3) := (by rw [hw]; exact GX.2); have hp_ : Kd.R (Kd.int .u64) 34 w12 w.heap.size (fun _ => True) (.slice (some ⟨go3, 0, none⟩) Jf.length co3) y123 := (by rw [hw, GM.o]; exact GX.1); clear GX; have n0_ := ze.mk (hp_); have n1_ := ze.mk ((by rw [hw]; exact zm (HB.o) GB3.o : Below w.heap.size w w12)); clear Jg; clear HB; have Jg := n0_; have HB := n1_; clear n0_ n1_; clear hg hw hp_))
   go_ret
   exact ⟨_, by first | rfl | (simp [zy, zx] <;> rfl) | (simp [*, zy, zx] <;> rfl), by (with_reducible repeat (first | apply Kd.zz | apply Kd.zA | apply Kd.zF)); exact Jg.o, by repeat (first | (with_reducible first | exact HB.o | apply zl | apply zf | apply zk) | exact HB.o)⟩
  ·rw [if_neg c4] at H
   exact absurd H (by simp)
 ·rw [if_neg c2] at H
  exact absurd H (by simp)

/-! ### escritoirelaw08_image: function 5 -/
def escritoirelaw08_image.l0 : Nat → List (S50) → List Int → Int → Option (List Int)
 | 0, _, _, _ => none
 | k + 1, x0, x3, x4 => if x4 < (x0.length : Int) then (if x4 < 60 then (if 0 ≤ x4 then (if (IntKind.u64.wrap ((x3.length : Int))) = 0 then (none) else (if 0 ≤ (wrap64 (Int.tmod (IntKind.u64.wrap ((yx x0 x4).f0)) (IntKind.u64.wrap ((x3.length : Int))))) then (if (wrap64 (Int.tmod (IntKind.u64.wrap ((yx x0 x4).f0)) (IntKind.u64.wrap ((x3.length : Int))))) < (x3.length : Int) then (escritoirelaw08_image.l0 k x0 (x3.set ((wrap64 (Int.tmod (IntKind.u64.wrap ((yx x0 x4).f0)) (IntKind.u64.wrap ((x3.length : Int))))) : Int).toNat ((yx x0 x4).f1)) (wrap64 (x4 + 1))) else (none)) else (none))) else (none)) else (some x3)) else (some x3)
def escritoirelaw08_image.f (k : Nat) (l0 : List (S50)) : Option (List Int) := if 2824 ≤ 35184372088832 then ((plan_Head.f k).bind fun t127 => (escritoirelaw08_image.l0 k l0 (cpy (List.replicate 2824 0) 0 t127) 0)) else (none)
def escritoirelaw08_image.T6 : Bool × List (List Nat × List Nat) := (true, [([], []), ([], []), ([], []), ([1, 2], [1, 2]), ([3], [3]), ([4], [4]), ([5], [5]), ([], []), ([7], [7]), ([8], [8]), ([6, 9], [6, 9]), ([10], [10]), ([], []), ([], []), ([12, 13], [12, 13]), ([14], [14]), ([15], [15]), ([0, 11, 0, 1, 2, 3, 4, 5, 6, 7, 8, 9, 10, 11, 12, 13, 14, 15, 16], [0, 11]), ([17, 16, 0, 1, 2, 3, 4, 5, 6, 7, 8, 9, 10, 11, 12, 13, 14, 15, 16], [16, 17])])
def escritoirelaw08_image.B6 : List Nat := [0, 0, 0, 6, 14, 30, 62, 0, 128, 384, 1022, 2046, 0, 0, 12288, 28672, 61440, 131071, 262143]
theorem escritoirelaw08_image.tab6 : rtab .any (opsOf Tryz.f5 6) = escritoirelaw08_image.T6 := by kernel_rfl
theorem escritoirelaw08_image.bits6 : ZY escritoirelaw08_image.T6.2 escritoirelaw08_image.B6 = true := by kernel_rfl
set_option maxHeartbeats 8000000 in
set_option maxRecDepth 100000 in
theorem escritoirelaw08_image.calls (k : Nat) (A0 : Option Addr) (c0 : Nat) (l0 : List (S50)) (r : List Int) (w : World) (hr0 : Kd.C k50 w A0 l0.length l0) (hc0 : l0.length ≤ c0) (h : escritoirelaw08_image.f k l0 = some r) :
  Calls Tryz.prog 5 #[.slice A0 l0.length c0] w fun e w' => ∃ v0_ : Value, e = .returned (v0_) ∧ Kd.R (Kd.int .u64) 34 w' w.heap.size (fun _ => True) v0_ r ∧ Below w.heap.size w w' := by
 have HR0 := ze.mk hr0
 have HC0 := ze.mk hc0
 clear hr0 hc0
 have HB := ze.mk (Below.refl w.heap.size w)
 have H : (if 2824 ≤ 35184372088832 then ((plan_Head.f k).bind fun t127 => (escritoirelaw08_image.l0 k l0 (cpy (List.replicate 2824 0) 0 t127) 0)) else (none)) = some r := h
 clear h
 have H1 : ((plan_Head.f k).bind fun t127 => (escritoirelaw08_image.l0 k l0 (cpy (List.replicate 2824 0) 0 t127) 0)) = some r := by rw [if_pos (by decide)] at H; exact H
 clear H
 have H := H1
 clear H1
 obtain ⟨Gg, Jy⟩ : ∃ y_ : List Int, y_ = (List.replicate 2824 0) := ⟨_, rfl⟩
 replace H : ((plan_Head.f k).bind fun t127 => (escritoirelaw08_image.l0 k l0 (cpy Gg 0 t127) 0)) = some r := by first | (rw [Jy]; with_reducible exact H) | (have H2_ := (Option.bind_some _ _).symm.trans H; rw [Jy]; with_reducible exact H2_) | (have H2_ := (Option.bind_some _ _).symm.trans H; with_reducible exact H2_) | with_reducible exact H | (rw [Jy]; exact H) | exact H
 have Gc := ze.mk Jy
 clear Jy
 replace H := Option.bind_eq_some_iff.mp H
 obtain ⟨t127, A20, H⟩ := H
 replace H : (escritoirelaw08_image.l0 k l0 (cpy Gg 0 t127) 0) = some r := H
 have A2 := ze.mk A20
 clear A20
 obtain ⟨Gm, Jw⟩ : ∃ y_ : List Int, y_ = (cpy Gg 0 t127) := ⟨_, rfl⟩
 replace H : (escritoirelaw08_image.l0 k l0 Gm 0) = some r := by first | (rw [Jw]; with_reducible exact H) | (have H2_ := (Option.bind_some _ _).symm.trans H; rw [Jw]; with_reducible exact H2_) | (have H2_ := (Option.bind_some _ _).symm.trans H; with_reducible exact H2_) | with_reducible exact H | (rw [Jw]; exact H) | exact H
 have GL := ze.mk Jw
 clear Jw
 have H' := ze.mk H
 clear H
 go_enter Tryz.func5, Tryz.ntmps5
 go_wp2_with (first | ((with_reducible refine zD (N := 5) rfl ?_); refine Kd.YX (Kd.int .u64) _ 34 rfl (N := 5) rfl 24 _ _ rfl 2824 rfl rfl Tryz.underlying24 (.int .u64 0) 8 YW rfl (by decide) (by omega) 0 (ok := fun _ => True) (okp := fun _ => True) rfl (fun _ hk => hk) trivial (by omega) (by omega) (Below.refl _ _) (Nat.le_refl _) ?_; intro JV w3 ho4 hb hg_ hnew_; clear hg_ hnew_; (first | rw [← Gc.o] at ho4 | (simp only [Int.reduceToNat] at ho4; rw [← Gc.o] at ho4)); have n0_ := ze.mk (Kd.yf ho4 (zt (by repeat (first | (with_reducible first | exact HB.o | apply zl | apply zf | apply zk) | exact HB.o)))); have n1_ := ze.mk (zu (by repeat (first | (with_reducible first | exact HB.o | apply zl | apply zf | apply zk) | exact HB.o)) hb); clear HB; have Jl := n0_; have HB := n1_; clear n0_ n1_; clear hb ho4) | ((with_reducible refine zN (f := 18) rfl ?_); refine yh (some 7) rfl rfl Tryz.func18 (by kernel_rfl) rfl #[] rfl (by (try simp only [List.map_toArray, List.map_cons, List.map_nil]); first | done | rfl | (simp only [List.length_drop, List.length_take]; rfl)) ?_; (with_reducible refine (plan_Head.calls k  t127 _ A2.o).mono ?_); rintro e w5 ⟨v128, rfl, ho0, hb⟩; refine ⟨_, rfl, ?_⟩; have n0_ := ze.mk (Kd.R_elder' (by (with_reducible repeat (first | apply Kd.zz | apply Kd.zA | apply Kd.zF)); exact Jl.o) (Kd.R_base ho0) hb); have n1_ := ze.mk (Kd.yf (Kd.R_new' ho0 (Kd.R_lt (by (with_reducible repeat (first | apply Kd.zz | apply Kd.zA | apply Kd.zF)); exact Jl.o))) (zt (by repeat (first | (with_reducible first | exact HB.o | apply zl | apply zf | apply zk) | exact HB.o)))); have n2_ := ze.mk (zu (by repeat (first | (with_reducible first | exact HB.o | apply zl | apply zf | apply zk) | exact HB.o)) hb); clear Jl; clear HB; have Jl := n0_; have JH := n1_; have HB := n2_; clear n0_ n1_ n2_; (try clear hb); (try clear hb2); (try clear hk); (try clear hi); (try clear ho0); have n_ := ze.mk (Kd.zT (ok' := (fun k_ => some k_ ≠ (v128 : Value).ownBlock)) Jl.o (fun k_ hk => hk.2)); clear Jl; have Jl := n_; clear n_; obtain ⟨Ao8, co8, eo8⟩ := Kd.yc JH.o; subst eo8) | ((with_reducible refine yo (b := .copy) (xs := #[.tmp 6, .tmp 7]) rfl ?_); skip; refine kd_copy (enc := Value.int .u64) (h1 := fun _ => rfl) (w0 := w) w.heap.size rfl (.tmp 6) (.tmp 7) 24 24 34 rfl Tryz.underlying24 (by kernel_rfl) JV Gg t127 _ _ _ (fun k_ => some k_ ≠ (.slice Ao8 t127.length co8 : Value).ownBlock) rfl rfl ?cO ?cR ?cB ?cS ?_; (case cO => exact (by (with_reducible repeat (first | apply Kd.zz | apply Kd.zA | apply Kd.zF)); exact Jl.o)); (case cR => repeat (first | exact (Kd.zQ JH.o).2.2 | (with_reducible refine Kd.ZT ?_ _) | (with_reducible refine Kd.ZR ?_ _) | (with_reducible refine Kd.YL ?_))); (case cB => exact (by repeat (first | (with_reducible first | exact HB.o | apply zl | apply zf | apply zk) | exact HB.o))); (case cS => exact ((zt (by repeat (first | (with_reducible first | exact HB.o | apply zl | apply zf | apply zk) | exact HB.o))))); intro w6 ho hb hg; skip; rw [← GL.o] at ho; replace ho : Kd.R (Kd.int .u64) 34 w6 w.heap.size (fun k_ => some k_ ≠ (.slice Ao8 t127.length co8 : Value).ownBlock) JV Gm := ho; have n0_ := ze.mk (ho); have n1_ := ze.mk (Kd.R_after (v := JV) (v1 := JV) (ok := (fun _ => True)) (by (with_reducible repeat (first | apply Kd.zz | apply Kd.zA | apply Kd.zF)); exact JH.o) hg (.inl rfl)); have n2_ := ze.mk (hb); clear Jl; clear JH; clear HB; have Jl := n0_; have JH := n1_; have HB := n2_; clear n0_ n1_ n2_; clear ho hb hg))
 go_loopg [4] k (fun kq v4 w' => ∃ (Jq : List Int) (Jd : Int), v4 = .int .i64 Jd ∧ ze (escritoirelaw08_image.l0 kq l0 Jq Jd = some r) ∧ ze (kq ≤ k) ∧ ze (Kd.R (Kd.int .u64) 34 w' w.heap.size (fun _ => True) JV Jq) ∧ ze (Below w.heap.size w w'))
 case atStart => exact ⟨(Gm), (0), (by first | rfl | (simp; done) | (simp [*]; done) | kernel_rfl), H', ⟨Nat.le_refl _⟩, ⟨by (with_reducible repeat (first | apply Kd.zz | apply Kd.zA | apply Kd.zF)); exact Kd.zT Jl.o (fun _ hk => trivial)⟩, ⟨by repeat (first | (with_reducible first | exact HB.o | apply zl | apply zf | apply zk) | exact HB.o)⟩⟩
 case round =>
  clear H'
  try clear c1
  try clear p2
  try clear c5
  obtain ⟨Jq, Jd, rfl, HA, HK1, JJ, HB⟩ := hrel
  cases gk with
  | zero => exact absurd HA.o (by simp [escritoirelaw08_image.l0])
  | succ k1 =>
   have H := HA.o
   clear HA
   simp only [escritoirelaw08_image.l0] at H
   by_cases c9 : Jd < (l0.length : Int)
   ·rw [if_pos c9] at H
    have c9b0 : decide (Jd < (l0.length : Int)) = true := decide_eq_true c9
    clear c9
    by_cases c10 : Jd < 60
    ·rw [if_pos c10] at H
     have GH : decide (Jd < 60) = true := decide_eq_true c10
     clear c10
     by_cases c11 : 0 ≤ Jd
     ·rw [if_pos c11] at H
      have c11b0 : decide (0 ≤ Jd) = true := decide_eq_true c11
      clear c11
      by_cases c12 : (IntKind.u64.wrap ((Jq.length : Int))) = 0
      ·rw [if_pos c12] at H
       exact absurd H (by simp)
      ·rw [if_neg c12] at H
       have c12b0 : ((IntKind.u64.wrap ((Jq.length : Int))) == 0) = false := beq_eq_false_iff_ne.mpr c12
       have c12b1 : ((IntKind.u64.wrap ((Jq.length : Int))) != 0) = true := bne_iff_ne.mpr c12
       obtain ⟨Js, JP⟩ : ∃ j_ : Int, (wrap64 (Int.tmod (IntKind.u64.wrap ((yx l0 Jd).f0)) (IntKind.u64.wrap ((Jq.length : Int))))) = j_ := ⟨_, rfl⟩
       replace H : (if 0 ≤ (Js) then (if (Js) < (Jq.length : Int) then (escritoirelaw08_image.l0 k1 l0 (Jq.set ((Js) : Int).toNat ((yx l0 Jd).f1)) (wrap64 (Jd + 1))) else (none)) else (none)) = some r := by first | (rw [JP] at H; exact H) | (simp only [JP] at H ⊢; exact H)
       have hji13w : (IntKind.i64.wrap (Int.tmod (IntKind.u64.wrap ((yx l0 Jd).f0)) (IntKind.u64.wrap ((Jq.length : Int))))) = Js := (i64_w _).trans JP
       by_cases c14 : 0 ≤ (Js)
       ·rw [if_pos c14] at H
        have c14b0 : decide (0 ≤ (Js)) = true := decide_eq_true c14
        clear c14
        by_cases c15 : (Js) < (Jq.length : Int)
        ·rw [if_pos c15] at H
         have c15b0 : decide ((Js) < (Jq.length : Int)) = true := decide_eq_true c15
         clear c15
         obtain ⟨y133, Jv⟩ : ∃ y_ : List Int, y_ = (Jq.set ((Js) : Int).toNat ((yx l0 Jd).f1)) := ⟨_, rfl⟩
         replace H : (escritoirelaw08_image.l0 k1 l0 y133 (wrap64 (Jd + 1))) = some r := by first | (rw [Jv]; with_reducible exact H) | (have H2_ := (Option.bind_some _ _).symm.trans H; rw [Jv]; with_reducible exact H2_) | (have H2_ := (Option.bind_some _ _).symm.trans H; with_reducible exact H2_) | with_reducible exact H | (rw [Jv]; exact H) | exact H
         have GK := ze.mk Jv
         clear Jv
         have H' := ze.mk H
         clear H
         try go_wp2
         have n0_ := ze.mk (Kd.zF JJ.o)
         have n1_ := ze.mk (zk HB.o)
         clear JJ
         clear HB
         have JJ := n0_
         have HB := n1_
         clear n0_ n1_
         have Gv : 0 ≤ (Jd : Int) := of_decide_eq_true (by first | (with_reducible assumption) | assumption)
         have Gr : Jd < (l0.length : Int) := of_decide_eq_true (by first | (with_reducible assumption) | assumption)
         obtain ⟨Jo, e131, Jk, Jj⟩ := at_T50 HR0.o Jd Gv Gr
         have JF := Jj
         have JG := Jk
         cases e131
         replace Jk := (HB.o.cell (World.block_lt_of_cell? w _ Jk)).trans Jk
         replace Jj := (HB.o.cell (World.block_lt_of_cell? w _ Jj)).trans Jj
         replace Gv := eq_true Gv
         replace Gr := eq_true Gr
         obtain ⟨Ao18, co18, eo18⟩ := Kd.yc JJ.o
         (first | subst eo18 | (injection eo18 with f1_ f2_ f3_; have f4_ := f1_.symm; have f5_ := f3_.symm; clear f1_ f2_ f3_; subst f4_; subst f5_))
         have Gu : 0 ≤ (Jd : Int) := of_decide_eq_true (by first | (with_reducible assumption) | assumption)
         have Gq : Jd < (l0.length : Int) := of_decide_eq_true (by first | (with_reducible assumption) | assumption)
         obtain ⟨GI, e132, Ji, Jh⟩ := at_T50 HR0.o Jd Gu Gq
         have JD := Jh
         have JE := Ji
         obtain rfl : Jo = GI := (by injection e132)
         replace Ji := (HB.o.cell (World.block_lt_of_cell? w _ Ji)).trans Ji
         replace Jh := (HB.o.cell (World.block_lt_of_cell? w _ Jh)).trans Jh
         replace Gu := eq_true Gu
         replace Gq := eq_true Gq
         have p16 : 0 ≤ ((Js) : Int) := of_decide_eq_true (by first | (with_reducible assumption) | assumption)
         have q16 : ((Js) : Int) < ((Jq.length : Int) : Int) := of_decide_eq_true (by first | (with_reducible assumption) | assumption)
         obtain ⟨go16, co16, eo16, gb16, gl16, cl16, HG16⟩ := Kd.Yh JJ.o (by omega)
         (first | cases eo16 | (injection eo16 with ea_ en_ ec_; (first | subst ea_ | (injection ea_ with ea_; subst ea_)); subst ec_; clear en_))
         have GB16 := ze.mk gb16
         have GG16 := ze.mk HG16
         clear gb16 gl16 HG16
         obtain ⟨JY, J7⟩ := Kd.zY 0 JJ.o ((Js) : Int) p16 q16
         replace p16 := eq_true p16
         replace q16 := eq_true q16
         have GU := Kd.R_putn JJ.o ((Js) : Int) ((yx l0 Jd).f1)
         rw [← GK.o] at GU
         have HQ19 := ze.mk GU
         clear GU
         refine Yu (n := 19) (S := fun w' => w'.cell? (Jo.add ((Jd).toNat * 2)) = some (.int .i64 ((yx l0 Jd).f0)) ∧ w'.cell? ⟨(Jo.add ((Jd).toNat * 2)).block, (Jo.add ((Jd).toNat * 2)).off + 1, none⟩ = some (.int .u64 ((yx l0 Jd).f1)) ∧ w'.cell? (Jo.add ((Jd).toNat * 2)) = some (.int .i64 ((yx l0 Jd).f0)) ∧ w'.cell? ⟨(Jo.add ((Jd).toNat * 2)).block, (Jo.add ((Jd).toNat * 2)).off + 1, none⟩ = some (.int .u64 ((yx l0 Jd).f1))) (ds := [18]) #[false, false, false, false, false, false, false, false, false, false, false, false, false, false, false, false, false, false, false] (by kernel_rfl) rfl rfl ⟨((HB.o.cell (World.block_lt_of_cell? w _ JG)).trans JG), ((HB.o.cell (World.block_lt_of_cell? w _ JF)).trans JF), ((HB.o.cell (World.block_lt_of_cell? w _ JE)).trans JE), ((HB.o.cell (World.block_lt_of_cell? w _ JD)).trans JD)⟩ (fun hHeld => ?_); refine Zu escritoirelaw08_image.tab6 escritoirelaw08_image.bits6 (fun HT_ HW_ => ?_)
         generalize wr.drew = w17 at JJ HB GG16 HQ19 J7 Jk Jj Ji Jh JY hHeld ⊢
         refine pure_ (i := 0) (N := some 19) (v := ?_) (a' := ?_) #[true, false, false, false, false, false, false, false, false, false, false, false, false, false, false, false, false, false, false] rfl rfl (zO HT_.o (by kernel_rfl)) (fun _ _ _ h => h) (Or.inl ⟨by rfl, ?_⟩) ?_ ?_
         rotate_left
         ·intro w'
          go_simp
          with_reducible rfl
         rotate_left
         ·simp only [Act.put, List.setIfInBounds_toArray, List.set_cons_zero, List.set_cons_succ, i64_w, i32_w]
          rfl
         refine pure_ (i := 1) (N := some 20) (v := ?_) (a' := ?_) #[true, true, false, false, false, false, false, false, false, false, false, false, false, false, false, false, false, false, false] rfl rfl (zO HT_.o (by kernel_rfl)) (fun _ _ _ h => h) (Or.inl ⟨by rfl, ?_⟩) ?_ ?_
         rotate_left
         ·intro w'
          go_simp
          with_reducible rfl
         rotate_left
         ·simp only [Act.put, List.setIfInBounds_toArray, List.set_cons_zero, List.set_cons_succ, i64_w, i32_w]
          rfl
         refine pure_ (i := 2) (N := some 21) (v := ?_) (a' := ?_) #[true, true, true, false, false, false, false, false, false, false, false, false, false, false, false, false, false, false, false] rfl rfl (zO HT_.o (by kernel_rfl)) (fun _ _ _ h => h) (Or.inl ⟨by rfl, ?_⟩) ?_ ?_
         rotate_left
         ·intro w'
          go_simp
          with_reducible rfl
         rotate_left
         ·simp only [Act.put, List.setIfInBounds_toArray, List.set_cons_zero, List.set_cons_succ, i64_w, i32_w]
          rfl
         refine pure_ (i := 3) (N := some 22) (v := ?_) (a' := ?_) #[true, true, true, true, false, false, false, false, false, false, false, false, false, false, false, false, false, false, false] rfl rfl (zO HT_.o (by kernel_rfl)) (fun _ _ _ h => h) (Or.inl ⟨by rfl, ?_⟩) ?_ ?_
         rotate_left
         ·intro w'
          go_simp
          with_reducible rfl
         rotate_left
         ·simp only [Act.put, List.setIfInBounds_toArray, List.set_cons_zero, List.set_cons_succ, i64_w, i32_w]
          rfl
         refine pure_ (i := 4) (N := some 23) (v := ?_) (a' := ?_) #[true, true, true, true, true, false, false, false, false, false, false, false, false, false, false, false, false, false, false] rfl rfl (zO HT_.o (by kernel_rfl)) (fun _ _ _ h => h) (Or.inl ⟨by rfl, ?_⟩) ?_ ?_
         rotate_left
         ·intro w'
          go_simp
          with_reducible rfl
         rotate_left
         ·simp only [Act.put, List.setIfInBounds_toArray, List.set_cons_zero, List.set_cons_succ, i64_w, i32_w]
          rfl
         refine pure_ (i := 7) (N := some 26) (v := ?_) (a' := ?_) #[true, true, true, true, true, false, false, true, false, false, false, false, false, false, false, false, false, false, false] rfl rfl (zO HT_.o (by kernel_rfl)) (fun _ _ _ h => h) (Or.inl ⟨by rfl, ?_⟩) ?_ ?_
         rotate_left
         ·intro w'
          go_simp
          with_reducible rfl
         rotate_left
         ·simp only [Act.put, List.setIfInBounds_toArray, List.set_cons_zero, List.set_cons_succ, i64_w, i32_w]
          rfl
         refine pure_ (i := 8) (N := some 27) (v := ?_) (a' := ?_) #[true, true, true, true, true, false, false, true, true, false, false, false, false, false, false, false, false, false, false] rfl rfl (zO HT_.o (by kernel_rfl)) (fun _ _ _ h => h) (Or.inl ⟨by rfl, ?_⟩) ?_ ?_
         rotate_left
         ·intro w'
          go_simp
          with_reducible rfl
         rotate_left
         ·simp only [Act.put, List.setIfInBounds_toArray, List.set_cons_zero, List.set_cons_succ, i64_w, i32_w]
          rfl
         refine pure_ (i := 9) (N := some 28) (v := ?_) (a' := ?_) #[true, true, true, true, true, false, false, true, true, true, false, false, false, false, false, false, false, false, false] rfl rfl (zO HT_.o (by kernel_rfl)) (fun _ _ _ h => h) (Or.inl ⟨by rfl, ?_⟩) ?_ ?_
         rotate_left
         ·intro w'
          go_simp
          with_reducible rfl
         rotate_left
         ·simp only [Act.put, List.setIfInBounds_toArray, List.set_cons_zero, List.set_cons_succ, i64_w, i32_w]
          rfl
         refine pure_ (i := 12) (N := some 31) (v := ?_) (a' := ?_) #[true, true, true, true, true, false, false, true, true, true, false, false, true, false, false, false, false, false, false] rfl rfl (zO HT_.o (by kernel_rfl)) (fun _ _ _ h => h) (Or.inl ⟨by rfl, ?_⟩) ?_ ?_
         rotate_left
         ·intro w'
          go_simp
          with_reducible rfl
         rotate_left
         ·simp only [Act.put, List.setIfInBounds_toArray, List.set_cons_zero, List.set_cons_succ, i64_w, i32_w]
          rfl
         refine pure_ (i := 13) (N := some 32) (v := ?_) (a' := ?_) #[true, true, true, true, true, false, false, true, true, true, false, false, true, true, false, false, false, false, false] rfl rfl (zO HT_.o (by kernel_rfl)) (fun _ _ _ h => h) (Or.inl ⟨by rfl, ?_⟩) ?_ ?_
         rotate_left
         ·intro w'
          go_simp
          with_reducible rfl
         rotate_left
         ·simp only [Act.put, List.setIfInBounds_toArray, List.set_cons_zero, List.set_cons_succ, i64_w, i32_w]
          rfl
         refine pure_ (i := 14) (N := some 33) (v := ?_) (a' := ?_) #[true, true, true, true, true, false, false, true, true, true, false, false, true, true, true, false, false, false, false] rfl rfl (zO HT_.o (by kernel_rfl)) (fun _ _ _ h => h) (Or.inl ⟨by rfl, ?_⟩) ?_ ?_
         rotate_left
         ·intro w'
          go_simp
          with_reducible rfl
         rotate_left
         ·simp only [Act.put, List.setIfInBounds_toArray, List.set_cons_zero, List.set_cons_succ, i64_w, i32_w]
          rfl
         refine pure_ (i := 15) (N := some 34) (v := ?_) (a' := ?_) #[true, true, true, true, true, false, false, true, true, true, false, false, true, true, true, true, false, false, false] rfl rfl (zO HT_.o (by kernel_rfl)) (fun _ _ _ h => h) (Or.inl ⟨by rfl, ?_⟩) ?_ ?_
         rotate_left
         ·intro w'
          go_simp
          with_reducible rfl
         rotate_left
         ·simp only [Act.put, List.setIfInBounds_toArray, List.set_cons_zero, List.set_cons_succ, i64_w, i32_w]
          rfl
         refine take_ (i := 5) (N := some 24) (v := ?_) (a' := ?_) #[true, true, true, true, true, true, false, true, true, true, false, false, true, true, true, true, false, false, false] rfl rfl (yt HT_.o HW_.o (by kernel_rfl)) (fun _ _ _ h => h) (Or.inl ⟨by rfl, ?_⟩) hHeld ?_ ?_
         rotate_left
         ·rintro w' ⟨s0, s1, s2, s3⟩
          go_simp
          with_reducible rfl
         rotate_left
         ·simp only [Act.put, List.setIfInBounds_toArray, List.set_cons_zero, List.set_cons_succ, i64_w, i32_w]
          rfl
         refine pure_ (i := 6) (N := some 25) (v := ?_) (a' := ?_) #[true, true, true, true, true, true, true, true, true, true, false, false, true, true, true, true, false, false, false] rfl rfl (zO HT_.o (by kernel_rfl)) (fun _ _ _ h => h) (Or.inl ⟨by rfl, ?_⟩) ?_ ?_
         rotate_left
         ·intro w'
          go_simp
          with_reducible rfl
         rotate_left
         ·simp only [Act.put, List.setIfInBounds_toArray, List.set_cons_zero, List.set_cons_succ, i64_w, i32_w]
          rfl
         refine pure_ (i := 10) (N := some 29) (v := ?_) (a' := ?_) #[true, true, true, true, true, true, true, true, true, true, true, false, true, true, true, true, false, false, false] rfl rfl (zO HT_.o (by kernel_rfl)) (fun _ _ _ h => h) (Or.inl ⟨by rfl, ?_⟩) ?_ ?_
         rotate_left
         ·intro w'
          go_simp
          with_reducible rfl
         rotate_left
         ·simp only [Act.put, List.setIfInBounds_toArray, List.set_cons_zero, List.set_cons_succ, i64_w, i32_w]
          rfl
         refine pure_ (i := 11) (N := some 30) (v := ?_) (a' := ?_) #[true, true, true, true, true, true, true, true, true, true, true, true, true, true, true, true, false, false, false] rfl rfl (zO HT_.o (by kernel_rfl)) (fun _ _ _ h => h) (Or.inl ⟨by rfl, ?_⟩) ?_ ?_
         rotate_left
         ·intro w'
          go_simp
          with_reducible rfl
         rotate_left
         ·simp only [Act.put, List.setIfInBounds_toArray, List.set_cons_zero, List.set_cons_succ, i64_w, i32_w]
          rfl
         refine take_ (i := 16) (N := some 35) (v := ?_) (a' := ?_) #[true, true, true, true, true, true, true, true, true, true, true, true, true, true, true, true, true, false, false] rfl rfl (yt HT_.o HW_.o (by kernel_rfl)) (fun _ _ _ h => h) (Or.inl ⟨by rfl, ?_⟩) hHeld ?_ ?_
         rotate_left
         ·rintro w' ⟨s0, s1, s2, s3⟩
          go_simp
          with_reducible rfl
         rotate_left
         ·simp only [Act.put, List.setIfInBounds_toArray, List.set_cons_zero, List.set_cons_succ, i64_w, i32_w]
          rfl
         refine pure_ (i := 17) (N := some 36) (v := ?_) (a' := ?_) #[true, true, true, true, true, true, true, true, true, true, true, true, true, true, true, true, true, true, false] rfl rfl (zO HT_.o (by kernel_rfl)) (fun _ _ _ h => h) (Or.inl ⟨by rfl, ?_⟩) ?_ ?_
         rotate_left
         ·intro w'
          go_simp
          with_reducible rfl
         rotate_left
         ·simp only [Act.put, List.setIfInBounds_toArray, List.set_cons_zero, List.set_cons_succ, i64_w, i32_w]
          rfl
         refine last_ (i := 18) (N := none) #[true, true, true, true, true, true, true, true, true, true, true, true, true, true, true, true, true, true, true] rfl rfl (YE HT_.o (by kernel_rfl)) (by decide) (fun K hK => ?_)
         refine skip_ (w1 := ?_) (by rfl) rfl ?_ ?_
         rotate_left
         ·go_simp
          rfl
         refine hK.out _ _ ?_
         clear hK K
         refine done_ (Yf HT_.o (by kernel_rfl)) ?_
         try go_wp2
         go_roundg k1
         case measure => have := HK1.o; omega
         case rel => exact ⟨(y133), (wrap64 (Jd + 1)), (by first | rfl | (simp; done) | (simp [*]; done) | kernel_rfl), H', ⟨by have := HK1.o; omega⟩, ⟨by (with_reducible repeat (first | apply Kd.zz | apply Kd.zA | apply Kd.zF)); exact HQ19.o⟩, ⟨by repeat (first | (with_reducible first | exact HB.o | apply zl | apply zf | apply zk | refine zm ?_ GB16.o) | exact HB.o)⟩⟩
        ·rw [if_neg c15] at H
         exact absurd H (by simp)
       ·rw [if_neg c14] at H
        exact absurd H (by simp)
     ·rw [if_neg c11] at H
      exact absurd H (by simp)
    ·rw [if_neg c10] at H
     have GH : decide (Jd < 60) = false := decide_eq_false c10
     clear c10
     obtain rfl := Option.some.inj H
     go_wp2
     go_ret
     exact ⟨_, by first | rfl | (simp [zy, zx] <;> rfl) | (simp [*, zy, zx] <;> rfl), by (with_reducible repeat (first | apply Kd.zz | apply Kd.zA | apply Kd.zF)); exact JJ.o, by repeat (first | (with_reducible first | exact HB.o | apply zl | apply zf | apply zk) | exact HB.o)⟩
   ·rw [if_neg c9] at H
    have c9b0 : decide (Jd < (l0.length : Int)) = false := decide_eq_false c9
    clear c9
    obtain rfl := Option.some.inj H
    go_wp2
    go_ret
    exact ⟨_, by first | rfl | (simp [zy, zx] <;> rfl) | (simp [*, zy, zx] <;> rfl), by (with_reducible repeat (first | apply Kd.zz | apply Kd.zA | apply Kd.zF)); exact JJ.o, by repeat (first | (with_reducible first | exact HB.o | apply zl | apply zf | apply zk) | exact HB.o)⟩

end Go.Proofs.YtkbhilhefnahpaaGreat.Print
