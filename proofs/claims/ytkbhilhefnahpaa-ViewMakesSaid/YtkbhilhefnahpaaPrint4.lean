import Derived.Test.YtkbhilhefnahpaaPrint0
import Derived.Test.YtkbhilhefnahpaaPrint2
import Derived.Test.YtkbhilhefnahpaaHbitsLen64
namespace Go.Proofs.Ytkbhilhefnahpaa.Print
open Go.RowKit Go.Proofs.YtkbhilhefnahpaaW.PrintWords Go.Proofs.YtkbhilhefnahpaaW.PrintLast Go.Proofs.YtkbhilhefnahpaaW.PrintMore
attribute [local go_sem] Zd Zc ZF ZE yV yU Zk Zj   -- for this text's walks alone
set_option linter.unusedVariables false
set_option linter.unusedSimpArgs false

/-! ### bits_Len: function 68 -/
/-! ### slices_nextPowerOfTwo: function 100 -/
/-! ### escritoirelaw08_early: function 17 -/
/-! ### escritoireref01_Same: function 23 -/
def escritoireref01_Same.l0 : Nat → List Int → List Int → Int → Option (Bool)
 | 0, _, _, _ => none
 | k + 1, x0, x1, x5 => if x5 < (x0.length : Int) then (if 0 ≤ x5 then (if x5 < (x1.length : Int) then (if (rd x0 x5) = (rd x1 x5) then (escritoireref01_Same.l0 k x0 x1 (wrap64 (x5 + 1))) else (some false)) else (none)) else (none)) else (some true)
def escritoireref01_Same.f (k : Nat) (l0 : List Int) (l1 : List Int) : Option (Bool) := if (l0.length : Int) = (l1.length : Int) then (escritoireref01_Same.l0 k l0 l1 0) else (some false)
set_option maxHeartbeats 8000000 in
set_option maxRecDepth 100000 in
theorem escritoireref01_Same.calls (k : Nat) (A0 : Option Addr) (c0 : Nat) (l0 : List Int) (A1 : Option Addr) (c1 : Nat) (l1 : List Int) (r : Bool) (w : World) (hr0 : Kd.C (Kd.int .u64) w A0 l0.length l0) (hc0 : l0.length ≤ c0) (hr1 : Kd.C (Kd.int .u64) w A1 l1.length l1) (hc1 : l1.length ≤ c1) (h : escritoireref01_Same.f k l0 l1 = some r) :
  Calls Try.prog 23 #[.slice A0 l0.length c0, .slice A1 l1.length c1] w fun e w' => e = .returned (.bool r) ∧ zN w w' := by
 have HR0 := ze.mk hr0
 have HC0 := ze.mk hc0
 clear hr0 hc0
 have HR1 := ze.mk hr1
 have HC1 := ze.mk hc1
 clear hr1 hc1
 have H : (if (l0.length : Int) = (l1.length : Int) then (escritoireref01_Same.l0 k l0 l1 0) else (some false)) = some r := h
 clear h
 by_cases c3 : (l0.length : Int) = (l1.length : Int)
 ·rw [if_pos c3] at H
  have J9 : ((l0.length : Int) == (l1.length : Int)) = true := beq_iff_eq.mpr c3
  have c3b1 : ((l0.length : Int) != (l1.length : Int)) = false := bne_eq_false_iff_eq.mpr c3
  have c3b2 : (l0.length == l1.length) = true := by first | simpa using c3 | (simp at c3 ⊢; omega)
  clear c3
  have H' := ze.mk H
  clear H
  go_enter Try.func23, Try.ntmps23
  go_wp2
  repeat (go_quiet (fail); try go_wp2)
  go_loopg [5] k (fun kq v5 w' => ∃ (Jl : Int), v5 = .int .i64 Jl ∧ ze (escritoireref01_Same.l0 kq l0 l1 Jl = some r) ∧ ze (kq ≤ k) ∧ zN w w')
  case atStart => exact ⟨(0), (by first | rfl | (simp; done) | (simp [*]; done) | kernel_rfl), H', ⟨Nat.le_refl _⟩, by repeat (first | exact zN.refl _ | apply zN.step)⟩
  case round =>
   clear H'
   try clear c1
   try clear c2
   try clear p2
   try clear c3
   try clear J9
   try clear c3b1
   try clear c3b2
   obtain ⟨Jl, rfl, HA, HK1, ⟨m1, rfl⟩⟩ := hrel
   cases gk with
   | zero => exact absurd HA.o (by simp [escritoireref01_Same.l0])
   | succ k1 =>
    have H := HA.o
    clear HA
    simp only [escritoireref01_Same.l0] at H
    by_cases c4 : Jl < (l0.length : Int)
    ·rw [if_pos c4] at H
     have c4b0 : decide (Jl < (l0.length : Int)) = true := decide_eq_true c4
     clear c4
     by_cases c5 : 0 ≤ Jl
     ·rw [if_pos c5] at H
      have c5b0 : decide (0 ≤ Jl) = true := decide_eq_true c5
      clear c5
      by_cases c6 : Jl < (l1.length : Int)
      ·rw [if_pos c6] at H
       have c6b0 : decide (Jl < (l1.length : Int)) = true := decide_eq_true c6
       clear c6
       by_cases c7 : (rd l0 Jl) = (rd l1 Jl)
       ·rw [if_pos c7] at H
        have Jat : ((rd l0 Jl) == (rd l1 Jl)) = true := beq_iff_eq.mpr c7
        have c7b1 : ((rd l0 Jl) != (rd l1 Jl)) = false := bne_eq_false_iff_eq.mpr c7
        clear c7
        have H' := ze.mk H
        clear H
        have JG : 0 ≤ (Jl : Int) := of_decide_eq_true (by first | (with_reducible assumption) | assumption)
        have JE : Jl < (l0.length : Int) := of_decide_eq_true (by first | (with_reducible assumption) | assumption)
        obtain ⟨Jav, Jas, JI⟩ := Kd.zX HR0.o Jl JG JE
        cases Jas
        replace JG := eq_true JG
        replace JE := eq_true JE
        have JF : 0 ≤ (Jl : Int) := of_decide_eq_true (by first | (with_reducible assumption) | assumption)
        have JD : Jl < (l1.length : Int) := of_decide_eq_true (by first | (with_reducible assumption) | assumption)
        obtain ⟨Jau, Jar, JH⟩ := Kd.zX HR1.o Jl JF JD
        cases Jar
        replace JF := eq_true JF
        replace JD := eq_true JD
        go_wp2
        repeat (go_quiet (fail); try go_wp2)
        go_roundg k1
        case measure => have := HK1.o; omega
        case rel => exact ⟨(wrap64 (Jl + 1)), (by first | rfl | (simp; done) | (simp [*]; done) | kernel_rfl), H', ⟨by have := HK1.o; omega⟩, by repeat (first | exact zN.refl _ | apply zN.step)⟩
       ·rw [if_neg c7] at H
        have Jat : ((rd l0 Jl) == (rd l1 Jl)) = false := beq_eq_false_iff_ne.mpr c7
        have c7b1 : ((rd l0 Jl) != (rd l1 Jl)) = true := bne_iff_ne.mpr c7
        obtain rfl := Option.some.inj H
        have JG : 0 ≤ (Jl : Int) := of_decide_eq_true (by first | (with_reducible assumption) | assumption)
        have JE : Jl < (l0.length : Int) := of_decide_eq_true (by first | (with_reducible assumption) | assumption)
        obtain ⟨Jav, Jas, JI⟩ := Kd.zX HR0.o Jl JG JE
        cases Jas
        replace JG := eq_true JG
        replace JE := eq_true JE
        have JF : 0 ≤ (Jl : Int) := of_decide_eq_true (by first | (with_reducible assumption) | assumption)
        have JD : Jl < (l1.length : Int) := of_decide_eq_true (by first | (with_reducible assumption) | assumption)
        obtain ⟨Jau, Jar, JH⟩ := Kd.zX HR1.o Jl JF JD
        cases Jar
        replace JF := eq_true JF
        replace JD := eq_true JD
        go_wp2
        repeat (go_quiet (fail); try go_wp2)
        go_ret
        exact ⟨by first | rfl | (simp; done) | (simp [*]; done), by repeat (first | exact zN.refl _ | apply zN.step)⟩
      ·rw [if_neg c6] at H
       exact absurd H (by simp)
     ·rw [if_neg c5] at H
      exact absurd H (by simp)
    ·rw [if_neg c4] at H
     have c4b0 : decide (Jl < (l0.length : Int)) = false := decide_eq_false c4
     clear c4
     obtain rfl := Option.some.inj H
     go_wp2
     repeat (go_quiet (fail); try go_wp2)
     go_ret
     exact ⟨by first | rfl | (simp; done) | (simp [*]; done), by repeat (first | exact zN.refl _ | apply zN.step)⟩
 ·rw [if_neg c3] at H
  have J9 : ((l0.length : Int) == (l1.length : Int)) = false := beq_eq_false_iff_ne.mpr c3
  have c3b1 : ((l0.length : Int) != (l1.length : Int)) = true := bne_iff_ne.mpr c3
  have c3b2 : (l0.length == l1.length) = false := by first | simpa using c3 | (simp at c3 ⊢; omega)
  obtain rfl := Option.some.inj H
  go_enter Try.func23, Try.ntmps23
  go_wp2
  repeat (go_quiet (fail); try go_wp2)
  go_ret
  exact ⟨by first | rfl | (simp; done) | (simp [*]; done), by repeat (first | exact zN.refl _ | apply zN.step)⟩

/-! ### plan_Card: function 54 -/
def plan_Card.f (k : Nat) (a0 : Int) : Option (Int × Int) := (plan_first.f k 2 a0).bind fun JC => (some (JC.1, JC.2))
set_option maxHeartbeats 8000000 in
set_option maxRecDepth 100000 in
theorem plan_Card.calls (k : Nat) (a0 : Int) (r1 : Int) (r2 : Int) (w : World) (h : plan_Card.f k a0 = some (r1, r2)) :
  Calls Try.prog 54 #[.int .i64 a0] w fun e w' => e = .returned (.tuple #[.int .i64 r1, .int .i64 r2]) ∧ Below w.heap.size w w' := by
 have HB := ze.mk (Below.refl w.heap.size w)
 have H : ((plan_first.f k 2 a0).bind fun JC => (some (JC.1, JC.2))) = some (r1, r2) := h
 clear h
 replace H := Option.bind_eq_some_iff.mp H
 obtain ⟨⟨t161, t162⟩, A20, H⟩ := H
 replace H : (some (t161, t162)) = some (r1, r2) := H
 have A2 := ze.mk A20
 clear A20
 simp only [Option.some.injEq, Prod.mk.injEq] at H
 obtain ⟨rfl, rfl⟩ := H
 go_enter Try.func54, Try.ntmps54
 go_wp2_with (first | ((with_reducible refine zM (f := 63) rfl ?_); refine yl (some 5) rfl rfl Try.func63 (by kernel_rfl) rfl #[.int .i64 2, .int .i64 a0] rfl (by (try simp only [List.map_toArray, List.map_cons, List.map_nil]); first | done | rfl | (simp only [List.length_drop, List.length_take]; rfl)) ?_; (with_reducible refine (plan_first.calls k 2 a0 t161 t162 _ A2.o).mono ?_); rintro e w3 ⟨rfl, hb⟩; refine ⟨_, rfl, ?_⟩; have n0_ := ze.mk (zu (by repeat (first | (with_reducible first | exact HB.o | apply zl | apply zf | apply zk) | exact HB.o)) hb); clear HB; have HB := n0_; clear n0_; (try clear hb); (try clear hb2); (try clear hk); (try clear hi)))
 go_ret2
 exact ⟨by first | rfl | (simp [zy, zx] <;> rfl) | (simp [*, zy, zx] <;> rfl), by repeat (first | (with_reducible first | exact HB.o | apply zl | apply zf | apply zk) | exact HB.o)⟩

/-! ### cards_fields: function 70 -/
def cards_fields.l0 : Nat → List (S102) → Int → Option ((List (S102)))
 | 0, _, _ => none
 | k + 1, x1, x7 => if x7 < 6 then (if x1.length < 5864062014805 then (cards_fields.l0 k (x1 ++ [(⟨wrap64 (2 + (wrap64 (Int.tdiv x7 4))), wrap64 (16 * (Int.tmod x7 4)), 16⟩ : S102)]) (wrap64 (x7 + 1))) else (none)) else (some x1)
def cards_fields.f (k : Nat)  : Option ((List (S102))) := cards_fields.l0 k (([(⟨0, 0, 8⟩ : S102), (⟨0, 8, 16⟩ : S102), (⟨0, 24, 32⟩ : S102)] : List (S102))) 0
theorem cards_fields.Xj : ∀ k, (∀ y0 y1, LeO (cards_fields.l0 k y0 y1) (cards_fields.l0 (k + 1) y0 y1))
 | 0 => fun _ _ r h => by simp [cards_fields.l0] at h
 | k + 1 => by
  have ih0 := cards_fields.Xj k
  ·intro y0 y1
   unfold cards_fields.l0
   repeat' first
   | (with_reducible exact ih0 _ _)
   | (with_reducible exact LeO.refl _)
   | (with_reducible exact LeO.none _)
   | (with_reducible refine LeO.ite ?_ ?_)
   | (with_reducible refine LeO.bind ?_ (fun _ => ?_))
   | exact ih0 _ _
   | exact LeO.none _
   | refine LeO.ite ?_ ?_
   | refine LeO.bind ?_ (fun _ => ?_)
theorem cards_fields.mono : ∀ k, LeO (cards_fields.f k ) (cards_fields.f (k + 1) ) := by
 intro  k
 have ih0 := cards_fields.Xj k
 unfold cards_fields.f
 repeat' first
   | (with_reducible exact ih0 _ _)
   | (with_reducible exact LeO.refl _)
   | (with_reducible exact LeO.none _)
   | (with_reducible refine LeO.ite ?_ ?_)
   | (with_reducible refine LeO.bind ?_ (fun _ => ?_))
   | exact ih0 _ _
   | exact LeO.none _
   | refine LeO.ite ?_ ?_
   | refine LeO.bind ?_ (fun _ => ?_)
set_option maxHeartbeats 8000000 in
set_option maxRecDepth 100000 in
theorem cards_fields.calls (k : Nat)  (r : List (S102)) (w : World) (h : cards_fields.f k  = some r) :
  Calls Try.prog 70 #[] w fun e w' => ∃ v0_ : Value, e = .returned (v0_) ∧ Kd.R k102 102 w' w.heap.size (fun _ => True) v0_ r ∧ Below w.heap.size w w' := by
 have hu102 := Try.underlying102
 have HB := ze.mk (Below.refl w.heap.size w)
 have H : (cards_fields.l0 k (([(⟨0, 0, 8⟩ : S102), (⟨0, 8, 16⟩ : S102), (⟨0, 24, 32⟩ : S102)] : List (S102))) 0) = some r := h
 clear h
 obtain ⟨y163, JB⟩ : ∃ y_ : List (S102), y_ = (([(⟨0, 0, 8⟩ : S102), (⟨0, 8, 16⟩ : S102), (⟨0, 24, 32⟩ : S102)] : List (S102))) := ⟨_, rfl⟩
 replace H : (cards_fields.l0 k y163 0) = some r := by first | (rw [JB]; with_reducible exact H) | (have H2_ := (Option.bind_some _ _).symm.trans H; rw [JB]; with_reducible exact H2_) | (have H2_ := (Option.bind_some _ _).symm.trans H; with_reducible exact H2_) | with_reducible exact H | (rw [JB]; exact H) | exact H
 have J8 := ze.mk JB
 clear JB
 have H' := ze.mk H
 clear H
 go_enter Try.func70, Try.ntmps70
 go_wp2_with (first | ((with_reducible refine zC (N := 6) rfl ?_); refine Kd.R_lit k102 _ 102 ?hg (N := 6) ?hd (xs := ([(⟨0, 0, 8⟩ : S102), (⟨0, 8, 16⟩ : S102), (⟨0, 24, 32⟩ : S102)] : List (S102))) (inner := [.int .i64 0, .int .i64 0, .int .i64 8, .int .i64 0, .int .i64 8, .int .i64 16, .int .i64 0, .int .i64 24, .int .i64 32]) (ok := fun _ => True) (okp := fun _ => True) ?hr ?hp (fun _ hk => hk) trivial (Below.refl _ _) (Nat.le_refl _) (by simp) ?_; (case hd => rfl); (case hg => rfl); (case hr => first | (go_simp; done) | (go_simp; rfl)); (case hp => exact (Reps.c3 (show Kd.M k102 _ _ _ (⟨0, 0, 8⟩ : S102) [.int .i64 0, .int .i64 0, .int .i64 8] from (Xq _ _ _ (⟨0, 0, 8⟩ : S102) )) (Reps.c3 (show Kd.M k102 _ _ _ (⟨0, 8, 16⟩ : S102) [.int .i64 0, .int .i64 8, .int .i64 16] from (Xq _ _ _ (⟨0, 8, 16⟩ : S102) )) (Reps.c3 (show Kd.M k102 _ _ _ (⟨0, 24, 32⟩ : S102) [.int .i64 0, .int .i64 24, .int .i64 32] from (Xq _ _ _ (⟨0, 24, 32⟩ : S102) )) (Reps.none _ _))))); intro v164 w1 ho2 hb hg_ hnew_; clear hg_ hnew_; (first | rw [← J8.o] at ho2 | (simp only [Int.reduceToNat] at ho2; rw [← J8.o] at ho2)); have n0_ := ze.mk (Kd.yf ho2 (zt (by repeat (first | (with_reducible first | exact HB.o | apply zl | apply zf | apply zk) | exact HB.o)))); have n1_ := ze.mk (zu (by repeat (first | (with_reducible first | exact HB.o | apply zl | apply zf | apply zk) | exact HB.o)) hb); clear HB; have Jaz := n0_; have HB := n1_; clear n0_ n1_; clear hb ho2))
 go_loopg [1, 7] k (fun kq v1 v7 w' => ∃ (JJ : List (S102)) (Jm : Int), v7 = .int .i64 Jm ∧ ze (cards_fields.l0 kq JJ Jm = some r) ∧ ze (kq ≤ k) ∧ ze (Kd.R k102 102 w' w.heap.size (fun _ => True) v1 JJ) ∧ ze (Below w.heap.size w w'))
 case atStart => exact ⟨(y163), (0), (by first | rfl | (simp; done) | (simp [*]; done) | kernel_rfl), H', ⟨Nat.le_refl _⟩, ⟨by (with_reducible repeat (first | apply Kd.zz | apply Kd.zA | apply Kd.zF)); exact Jaz.o⟩, ⟨by repeat (first | (with_reducible first | exact HB.o | apply zl | apply zf | apply zk) | exact HB.o)⟩⟩
 case round =>
  clear H'
  try clear p2
  obtain ⟨JJ, Jm, rfl, HA, HK1, Jax, HB⟩ := hrel
  cases gk with
  | zero => exact absurd HA.o (by simp [cards_fields.l0])
  | succ k1 =>
   have H := HA.o
   clear HA
   simp only [cards_fields.l0] at H
   by_cases c3 : Jm < 6
   ·rw [if_pos c3] at H
    have J9 : decide (Jm < 6) = true := decide_eq_true c3
    clear c3
    by_cases c4 : JJ.length < 5864062014805
    ·rw [if_pos c4] at H
     have LMc4 := ze.mk c4
     clear c4
     obtain ⟨y166, JA⟩ : ∃ y_ : List (S102), y_ = (JJ ++ [(⟨wrap64 (2 + (wrap64 (Int.tdiv Jm 4))), wrap64 (16 * (Int.tmod Jm 4)), 16⟩ : S102)]) := ⟨_, rfl⟩
     replace H : (cards_fields.l0 k1 y166 (wrap64 (Jm + 1))) = some r := by first | (rw [JA]; with_reducible exact H) | (have H2_ := (Option.bind_some _ _).symm.trans H; rw [JA]; with_reducible exact H2_) | (have H2_ := (Option.bind_some _ _).symm.trans H; with_reducible exact H2_) | with_reducible exact H | (rw [JA]; exact H) | exact H
     have Jaw := ze.mk JA
     clear JA
     have H' := ze.mk H
     clear H
     go_wp2_with (first | ((with_reducible refine yt (b := .append) (xs := #[.tmp 10, .tmp 18]) rfl ?_); at_builtin; refine Kd.Yp k102 (w0 := w) w.heap.size rfl (.tmp 10) (.tmp 18) 99 102 (.agg #[(.int .i64 0), (.int .i64 0), (.int .i64 0)]) 24 rfl Try.underlying99 info102 rfl (by decide) (by omega) u1 JJ (⟨wrap64 (2 + (wrap64 (Int.tdiv Jm 4))), wrap64 (16 * (Int.tmod Jm 4)), 16⟩ : S102) [.int .i64 (wrap64 (2 + (wrap64 (Int.tdiv Jm 4)))), .int .i64 (wrap64 (16 * (Int.tmod Jm 4))), .int .i64 16] (fun _ => True) (fun _ => False) rfl rfl ?aP (fun _ hk => hk.elim) ?aF ?aO ?aB ?aS ?aL ?_; (case aP => exact Xq _ _ _ (⟨wrap64 (2 + (wrap64 (Int.tdiv Jm 4))), wrap64 (16 * (Int.tmod Jm 4)), 16⟩ : S102)); (case aB => exact (by repeat (first | (with_reducible first | exact HB.o | apply zl | apply zf | apply zk) | exact HB.o))); (case aF => exact (fun _ _ => trivial)); (case aO => exact (by (with_reducible repeat (first | apply Kd.zz | apply Kd.zA | apply Kd.zF)); exact Jax.o)); (case aS => exact (zt (by repeat (first | (with_reducible first | exact HB.o | apply zl | apply zf | apply zk) | exact HB.o)))); (case aL => have := LMc4.o; omega); intro v167 w5 ho hb hg hat; rw [← Jaw.o] at ho; have n0_ := ze.mk (hb); have n1_ := ze.mk (ho); clear HB; clear Jax; have HB := n0_; have Jay := n1_; clear n0_ n1_; clear ho hb hg hat))
     go_roundg k1
     case measure => have := HK1.o; omega
     case rel => exact ⟨(y166), (wrap64 (Jm + 1)), (by first | rfl | (simp; done) | (simp [*]; done) | kernel_rfl), H', ⟨by have := HK1.o; omega⟩, ⟨by (with_reducible repeat (first | apply Kd.zz | apply Kd.zA | apply Kd.zF)); exact Jay.o⟩, ⟨by repeat (first | (with_reducible first | exact HB.o | apply zl | apply zf | apply zk) | exact HB.o)⟩⟩
    ·rw [if_neg c4] at H
     exact absurd H (by simp)
   ·rw [if_neg c3] at H
    have J9 : decide (Jm < 6) = false := decide_eq_false c3
    clear c3
    obtain rfl := Option.some.inj H
    go_wp2
    go_ret
    exact ⟨_, by first | rfl | (simp [zy, zx] <;> rfl) | (simp [*, zy, zx] <;> rfl), by (with_reducible repeat (first | apply Kd.zz | apply Kd.zA | apply Kd.zF)); exact Jax.o, by repeat (first | (with_reducible first | exact HB.o | apply zl | apply zf | apply zk) | exact HB.o)⟩

/-! ### cards_None: function 92 -/
def cards_None.l0 : Nat → Int → Int → Int → Int → Int → Int → Int → Int → Int → Int → Int → Option (Int × Int × Int × Int × Int × Int × Int × Int × Int × Int)
 | 0, _, _, _, _, _, _, _, _, _, _, _ => none
 | k + 1, x7, Jr, Jq, Jp, Jo, Jy, Jw, Jv, Ju, Jt, Jn => if x7 < 5 then (if x7 = 0 then (cards_None.l0 k (wrap64 (x7 + 1)) Jr Jq Jp Jo (-1) Jw Jv Ju Jt Jn) else (if x7 = 1 then (cards_None.l0 k (wrap64 (x7 + 1)) Jr Jq Jp Jo Jy (-1) Jv Ju Jt Jn) else (if x7 = 2 then (cards_None.l0 k (wrap64 (x7 + 1)) Jr Jq Jp Jo Jy Jw (-1) Ju Jt Jn) else (if x7 = 3 then (cards_None.l0 k (wrap64 (x7 + 1)) Jr Jq Jp Jo Jy Jw Jv (-1) Jt Jn) else (if x7 = 4 then (cards_None.l0 k (wrap64 (x7 + 1)) Jr Jq Jp Jo Jy Jw Jv Ju (-1) Jn) else (none)))))) else (some (Jr, Jq, Jp, Jo, Jy, Jw, Jv, Ju, Jt, Jn))
def cards_None.f (k : Nat) (a0 : Int) : Option (Int × Int × Int × Int × Int × Int × Int × Int × Int × Int) := cards_None.l0 k 0 0 0 0 a0 0 0 0 0 0 (-1)
set_option maxHeartbeats 8000000 in
set_option maxRecDepth 100000 in
theorem cards_None.calls (k : Nat) (a0 : Int) (r1 : Int) (r2 : Int) (r3 : Int) (r4 : Int) (r5 : Int) (r6 : Int) (r7 : Int) (r8 : Int) (r9 : Int) (r10 : Int) (w : World) (h : cards_None.f k a0 = some (r1, r2, r3, r4, r5, r6, r7, r8, r9, r10)) :
  Calls Try.prog 92 #[.int .u64 a0] w fun e w' => e = .returned (.agg #[.int .i64 r1, .int .i64 r2, .int .i64 r3, .int .u64 r4, .int .i64 r5, .int .i64 r6, .int .i64 r7, .int .i64 r8, .int .i64 r9, .int .i64 r10]) ∧ Below w.heap.size w w' := by
 have hu45 := Try.underlying45
 have HB := ze.mk (Below.refl w.heap.size w)
 have H : (cards_None.l0 k 0 0 0 0 a0 0 0 0 0 0 (-1)) = some (r1, r2, r3, r4, r5, r6, r7, r8, r9, r10) := h
 clear h
 have H' := ze.mk H
 clear H
 go_enter Try.func92, Try.ntmps92
 go_wp2_with (first | ((with_reducible refine zC (N := 2) rfl ?_); refine zD ?hg (N := 2) ?hd (cs := #[.int .i64 0, .int .i64 0, .int .i64 0, .int .u64 0, .int .i64 0, .int .i64 0, .int .i64 0, .int .i64 0, .int .i64 0, .int .i64 0]) (t := 45) ?hr ?_; (case hd => rfl); (case hg => rfl); (case hr => first | (go_simp; done) | (go_simp; rfl)); intro Jk hg w2 hbox hb; have n0_ := ze.mk (zu (by repeat (first | (with_reducible first | exact HB.o | apply zl | apply zf | apply zk) | exact HB.o)) hb); have n1_ := ze.mk (hbox); have n2_ := ze.mk ((by rw [hg]; exact (zt (by repeat (first | (with_reducible first | exact HB.o | apply zl | apply zf | apply zk) | exact HB.o))) : w.heap.size ≤ Jk)); have n3_ := ze.mk ((by rw [hg]; exact (zt (by repeat (first | (with_reducible first | exact HB.o | apply zl | apply zf | apply zk) | exact HB.o))) : w.heap.size ≤ Jk)); clear HB; have HB := n0_; have Jj := n1_; have GW169 := n2_; have Js := n3_; clear n0_ n1_ n2_ n3_; clear hb hbox hg) | ((with_reducible refine zC (N := 3) rfl ?_); refine zD ?hg (N := 3) ?hd (cs := #[.int .i64 0, .int .i64 0, .int .i64 0, .int .u64 0, .int .i64 0, .int .i64 0, .int .i64 0, .int .i64 0, .int .i64 0, .int .i64 0]) (t := 45) ?hr ?_; (case hd => rfl); (case hg => rfl); (case hr => first | (go_simp; done) | (go_simp; rfl)); intro Jg hg w3 hbox hb; have n0_ := ze.mk (zK (g := Jk) (o := .cells #[.int .i64 0, .int .i64 0, .int .i64 0, .int .u64 0, .int .i64 0, .int .i64 0, .int .i64 0, .int .i64 0, .int .i64 0, .int .i64 0] 45 (0, 0)) (by (with_reducible repeat (first | refine zg ?_ _ | refine zi ?_ | refine zh ?_ _)); exact Jj.o) hb); have n1_ := ze.mk (zu (by repeat (first | (with_reducible first | exact HB.o | apply zl | apply zf | apply zk | refine zm ?_ Js.o) | exact HB.o)) hb); have n2_ := ze.mk (hbox); have n3_ := ze.mk ((by rw [hg]; exact (zt (by repeat (first | (with_reducible first | exact HB.o | apply zl | apply zf | apply zk | refine zm ?_ Js.o) | exact HB.o))) : w.heap.size ≤ Jg)); have n4_ := ze.mk ((by rw [hg]; exact (zt (by repeat (first | (with_reducible first | exact HB.o | apply zl | apply zf | apply zk | refine zm ?_ Js.o) | exact HB.o))) : w.heap.size ≤ Jg)); have n5_ := ze.mk ((by rw [hg]; exact Nat.ne_of_lt (yK (g := Jk) (o := .cells #[.int .i64 0, .int .i64 0, .int .i64 0, .int .u64 0, .int .i64 0, .int .i64 0, .int .i64 0, .int .i64 0, .int .i64 0, .int .i64 0] 45 (0, 0)) (by (with_reducible repeat (first | refine zg ?_ _ | refine zi ?_ | refine zh ?_ _)); exact Jj.o)) : Jk ≠ Jg)); have n6_ := ze.mk ((by rw [hg]; exact Nat.ne_of_gt (yK (g := Jk) (o := .cells #[.int .i64 0, .int .i64 0, .int .i64 0, .int .u64 0, .int .i64 0, .int .i64 0, .int .i64 0, .int .i64 0, .int .i64 0, .int .i64 0] 45 (0, 0)) (by (with_reducible repeat (first | refine zg ?_ _ | refine zi ?_ | refine zh ?_ _)); exact Jj.o)) : Jg ≠ Jk)); clear Jj; clear HB; have Jj := n0_; have HB := n1_; have Ja := n2_; have GW170 := n3_; have Jz := n4_; have Jh := n5_; have Ji := n6_; clear n0_ n1_ n2_ n3_ n4_ n5_ n6_; clear hb hbox hg; have hnb4 := Ji.o; have hnc4 := Jh.o; have J7 : w3.cell? ⟨Jg, 0, none⟩ = some (.int .i64 0) := (zb Ja.o 0).trans rfl; have J6 : w3.cell? ⟨Jg, 1, none⟩ = some (.int .i64 0) := (zb Ja.o 1).trans rfl; have J5 : w3.cell? ⟨Jg, 2, none⟩ = some (.int .i64 0) := (zb Ja.o 2).trans rfl; have J4 : w3.cell? ⟨Jg, 3, none⟩ = some (.int .u64 0) := (zb Ja.o 3).trans rfl; have J3 : w3.cell? ⟨Jg, 4, none⟩ = some (.int .i64 0) := (zb Ja.o 4).trans rfl; have J2 : w3.cell? ⟨Jg, 5, none⟩ = some (.int .i64 0) := (zb Ja.o 5).trans rfl; have JZ : w3.cell? ⟨Jg, 6, none⟩ = some (.int .i64 0) := (zb Ja.o 6).trans rfl; have JY : w3.cell? ⟨Jg, 7, none⟩ = some (.int .i64 0) := (zb Ja.o 7).trans rfl; have JX : w3.cell? ⟨Jg, 8, none⟩ = some (.int .i64 0) := (zb Ja.o 8).trans rfl; have JW : w3.cell? ⟨Jg, 9, none⟩ = some (.int .i64 0) := (zb Ja.o 9).trans rfl; have JV := za Ja.o 0; have JU := za Ja.o 1; have JS := za Ja.o 2; have JR := za Ja.o 3; have JQ := za Ja.o 4; have JP := za Ja.o 5; have JO := za Ja.o 6; have JN := za Ja.o 7; have JL := za Ja.o 8; have JK := za Ja.o 9) | ((with_reducible refine zJ (t := 45) (p := 3) rfl ?_); refine zH (t := 45) (p := 3) (v := ?vo_w6) (w1 := ((((((((((w3.setCell ⟨Jg, 0, none⟩ (.int .i64 0)).setCell ⟨Jg, 1, none⟩ (.int .i64 0)).setCell ⟨Jg, 2, none⟩ (.int .i64 0)).setCell ⟨Jg, 3, none⟩ (.int .u64 a0)).setCell ⟨Jg, 4, none⟩ (.int .i64 0)).setCell ⟨Jg, 5, none⟩ (.int .i64 0)).setCell ⟨Jg, 6, none⟩ (.int .i64 0)).setCell ⟨Jg, 7, none⟩ (.int .i64 0)).setCell ⟨Jg, 8, none⟩ (.int .i64 0)).setCell ⟨Jg, 9, none⟩ (.int .i64 (-1)))) ?hg ?ho ?hn ?hr ?_; (case ho => rfl); (case hg => rfl); (case hn => rfl); (case hr => exact zL rfl rfl rfl (zP (P := Try.prog) (o := 0) (cur := #[.int .i64 0, .int .i64 0, .int .i64 0, .int .u64 0, .int .i64 0, .int .i64 0, .int .i64 0, .int .i64 0, .int .i64 0, .int .i64 0]) 45 (.agg #[.int .i64 0, .int .i64 0, .int .i64 0, .int .u64 a0, .int .i64 0, .int .i64 0, .int .i64 0, .int .i64 0, .int .i64 0, .int .i64 (-1)]) [.int .i64 0, .int .i64 0, .int .i64 0, .int .u64 a0, .int .i64 0, .int .i64 0, .int .i64 0, .int .i64 0, .int .i64 0, .int .i64 (-1)] (show _ = some (Obj.cells #[.int .i64 0, .int .i64 0, .int .i64 0, .int .u64 0, .int .i64 0, .int .i64 0, .int .i64 0, .int .i64 0, .int .i64 0, .int .i64 0] 45 (0, 0)) from (by (with_reducible repeat (first | refine zg ?_ _ | refine zi ?_ | refine zh ?_ _)); exact Ja.o)) rfl (by kernel_rfl) (show 10 ≤ 10 by decide) (by intro q_ hq_; simp only [List.mem_cons, List.not_mem_nil, or_false] at hq_; rcases hq_ with rfl | rfl | rfl | rfl | rfl | rfl | rfl | rfl | rfl | rfl <;> rfl))); intro w6 hw; have n0_ : ze (w6.heap[Jk]? = some (.cells #[.int .i64 0, .int .i64 0, .int .i64 0, .int .u64 0, .int .i64 0, .int .i64 0, .int .i64 0, .int .i64 0, .int .i64 0, .int .i64 0] 45 (0, 0))) := ⟨(by rw [hw]; exact (by (with_reducible repeat (first | refine zg ?_ _ | refine zi ?_ | refine zh ?_ _)); refine zB ?_ Jh.o _; (with_reducible repeat (first | refine zg ?_ _ | refine zi ?_ | refine zh ?_ _)); refine zB ?_ Jh.o _; (with_reducible repeat (first | refine zg ?_ _ | refine zi ?_ | refine zh ?_ _)); refine zB ?_ Jh.o _; (with_reducible repeat (first | refine zg ?_ _ | refine zi ?_ | refine zh ?_ _)); refine zB ?_ Jh.o _; (with_reducible repeat (first | refine zg ?_ _ | refine zi ?_ | refine zh ?_ _)); refine zB ?_ Jh.o _; (with_reducible repeat (first | refine zg ?_ _ | refine zi ?_ | refine zh ?_ _)); refine zB ?_ Jh.o _; (with_reducible repeat (first | refine zg ?_ _ | refine zi ?_ | refine zh ?_ _)); refine zB ?_ Jh.o _; (with_reducible repeat (first | refine zg ?_ _ | refine zi ?_ | refine zh ?_ _)); refine zB ?_ Jh.o _; (with_reducible repeat (first | refine zg ?_ _ | refine zi ?_ | refine zh ?_ _)); refine zB ?_ Jh.o _; (with_reducible repeat (first | refine zg ?_ _ | refine zi ?_ | refine zh ?_ _)); refine zB ?_ Jh.o _; (with_reducible repeat (first | refine zg ?_ _ | refine zi ?_ | refine zh ?_ _)); exact Jj.o))⟩; have n1_ : ze (w6.heap[Jg]? = some (.cells #[.int .i64 0, .int .i64 0, .int .i64 0, .int .u64 a0, .int .i64 0, .int .i64 0, .int .i64 0, .int .i64 0, .int .i64 0, .int .i64 (-1)] 45 (0, 0))) := ⟨(by rw [hw]; exact (by (with_reducible repeat (first | refine zg ?_ _ | refine zi ?_ | refine zh ?_ _)); refine zq (cs := #[.int .i64 0, .int .i64 0, .int .i64 0, .int .u64 a0, .int .i64 0, .int .i64 0, .int .i64 0, .int .i64 0, .int .i64 0, .int .i64 0]) ?_ 9 _ rfl; (with_reducible repeat (first | refine zg ?_ _ | refine zi ?_ | refine zh ?_ _)); refine zq (cs := #[.int .i64 0, .int .i64 0, .int .i64 0, .int .u64 a0, .int .i64 0, .int .i64 0, .int .i64 0, .int .i64 0, .int .i64 0, .int .i64 0]) ?_ 8 _ rfl; (with_reducible repeat (first | refine zg ?_ _ | refine zi ?_ | refine zh ?_ _)); refine zq (cs := #[.int .i64 0, .int .i64 0, .int .i64 0, .int .u64 a0, .int .i64 0, .int .i64 0, .int .i64 0, .int .i64 0, .int .i64 0, .int .i64 0]) ?_ 7 _ rfl; (with_reducible repeat (first | refine zg ?_ _ | refine zi ?_ | refine zh ?_ _)); refine zq (cs := #[.int .i64 0, .int .i64 0, .int .i64 0, .int .u64 a0, .int .i64 0, .int .i64 0, .int .i64 0, .int .i64 0, .int .i64 0, .int .i64 0]) ?_ 6 _ rfl; (with_reducible repeat (first | refine zg ?_ _ | refine zi ?_ | refine zh ?_ _)); refine zq (cs := #[.int .i64 0, .int .i64 0, .int .i64 0, .int .u64 a0, .int .i64 0, .int .i64 0, .int .i64 0, .int .i64 0, .int .i64 0, .int .i64 0]) ?_ 5 _ rfl; (with_reducible repeat (first | refine zg ?_ _ | refine zi ?_ | refine zh ?_ _)); refine zq (cs := #[.int .i64 0, .int .i64 0, .int .i64 0, .int .u64 a0, .int .i64 0, .int .i64 0, .int .i64 0, .int .i64 0, .int .i64 0, .int .i64 0]) ?_ 4 _ rfl; (with_reducible repeat (first | refine zg ?_ _ | refine zi ?_ | refine zh ?_ _)); refine zq (cs := #[.int .i64 0, .int .i64 0, .int .i64 0, .int .u64 0, .int .i64 0, .int .i64 0, .int .i64 0, .int .i64 0, .int .i64 0, .int .i64 0]) ?_ 3 _ rfl; (with_reducible repeat (first | refine zg ?_ _ | refine zi ?_ | refine zh ?_ _)); refine zq (cs := #[.int .i64 0, .int .i64 0, .int .i64 0, .int .u64 0, .int .i64 0, .int .i64 0, .int .i64 0, .int .i64 0, .int .i64 0, .int .i64 0]) ?_ 2 _ rfl; (with_reducible repeat (first | refine zg ?_ _ | refine zi ?_ | refine zh ?_ _)); refine zq (cs := #[.int .i64 0, .int .i64 0, .int .i64 0, .int .u64 0, .int .i64 0, .int .i64 0, .int .i64 0, .int .i64 0, .int .i64 0, .int .i64 0]) ?_ 1 _ rfl; (with_reducible repeat (first | refine zg ?_ _ | refine zi ?_ | refine zh ?_ _)); refine zq (cs := #[.int .i64 0, .int .i64 0, .int .i64 0, .int .u64 0, .int .i64 0, .int .i64 0, .int .i64 0, .int .i64 0, .int .i64 0, .int .i64 0]) ?_ 0 _ rfl; (with_reducible repeat (first | refine zg ?_ _ | refine zi ?_ | refine zh ?_ _)); exact Ja.o))⟩; have n2_ : ze (Below w.heap.size w w6) := ⟨(by rw [hw]; exact (by repeat (first | (with_reducible first | exact HB.o | apply zl | apply zf | apply zk | refine zm ?_ Js.o | refine zm ?_ Jz.o) | exact HB.o)))⟩; clear hw; clear Jj; clear Ja; clear HB; have Jj := n0_; have Ja := n1_; have HB := n2_; clear n0_ n1_ n2_))
 go_loopg [7] k (fun kq v7 w' => ∃ (Jm : Int) (Jb : Int) (Jc : Int) (Jd : Int) (Je : Int) (Jf : Int), v7 = .int .i64 Jm ∧ ze (cards_None.l0 kq Jm 0 0 0 a0 Jb Jc Jd Je Jf (-1) = some (r1, r2, r3, r4, r5, r6, r7, r8, r9, r10)) ∧ ze (kq ≤ k) ∧ ze (w'.heap[Jk]? = some (.cells #[.int .i64 0, .int .i64 0, .int .i64 0, .int .u64 0, .int .i64 0, .int .i64 0, .int .i64 0, .int .i64 0, .int .i64 0, .int .i64 0] 45 (0, 0))) ∧ ze (w'.heap[Jg]? = some (.cells #[.int .i64 0, .int .i64 0, .int .i64 0, .int .u64 a0, .int .i64 Jb, .int .i64 Jc, .int .i64 Jd, .int .i64 Je, .int .i64 Jf, .int .i64 (-1)] 45 (0, 0))) ∧ ze (Below w.heap.size w w'))
 case atStart => exact ⟨(0), (0), (0), (0), (0), (0), (by first | rfl | (simp; done) | (simp [*]; done) | kernel_rfl), H', ⟨Nat.le_refl _⟩, ⟨by (with_reducible repeat (first | refine zg ?_ _ | refine zi ?_ | refine zh ?_ _)); exact Jj.o⟩, ⟨by (with_reducible repeat (first | refine zg ?_ _ | refine zi ?_ | refine zh ?_ _)); exact Ja.o⟩, ⟨by repeat (first | (with_reducible first | exact HB.o | apply zl | apply zf | apply zk | refine zm ?_ Js.o | refine zm ?_ Jz.o) | exact HB.o)⟩⟩
 case round =>
  clear H'
  try clear p2
  try clear c4
  try clear J7
  try clear J6
  try clear J5
  try clear J4
  try clear J3
  try clear J2
  try clear JZ
  try clear JY
  try clear JX
  try clear JW
  try clear JV
  try clear JU
  try clear JS
  try clear JR
  try clear JQ
  try clear JP
  try clear JO
  try clear JN
  try clear JL
  try clear JK
  obtain ⟨Jm, Jb, Jc, Jd, Je, Jf, rfl, HA, HK1, Jj, Ja, HB⟩ := hrel
  cases gk with
  | zero => exact absurd HA.o (by simp [cards_None.l0])
  | succ k1 =>
   have H := HA.o
   clear HA
   simp only [cards_None.l0] at H
   by_cases c7 : Jm < 5
   ·rw [if_pos c7] at H
    have Jat : decide (Jm < 5) = true := decide_eq_true c7
    clear c7
    by_cases c8 : Jm = 0
    ·subst c8
     have H1 : (cards_None.l0 k1 (wrap64 (0 + 1)) 0 0 0 a0 (-1) Jc Jd Je Jf (-1)) = some (r1, r2, r3, r4, r5, r6, r7, r8, r9, r10) := by rw [if_pos rfl] at H; exact H
     clear H
     have H := H1
     clear H1
     have H' := ze.mk H
     clear H
     have hnb9 := Ji.o
     have hnc9 := Jh.o
     have Jaq : wr.cell? ⟨Jg, 0, none⟩ = some (.int .i64 0) := (zb Ja.o 0).trans rfl
     have Jap : wr.cell? ⟨Jg, 1, none⟩ = some (.int .i64 0) := (zb Ja.o 1).trans rfl
     have Jao : wr.cell? ⟨Jg, 2, none⟩ = some (.int .i64 0) := (zb Ja.o 2).trans rfl
     have Jan : wr.cell? ⟨Jg, 3, none⟩ = some (.int .u64 a0) := (zb Ja.o 3).trans rfl
     have Jam : wr.cell? ⟨Jg, 4, none⟩ = some (.int .i64 Jb) := (zb Ja.o 4).trans rfl
     have Jal : wr.cell? ⟨Jg, 5, none⟩ = some (.int .i64 Jc) := (zb Ja.o 5).trans rfl
     have Jak : wr.cell? ⟨Jg, 6, none⟩ = some (.int .i64 Jd) := (zb Ja.o 6).trans rfl
     have Jaj : wr.cell? ⟨Jg, 7, none⟩ = some (.int .i64 Je) := (zb Ja.o 7).trans rfl
     have Jai : wr.cell? ⟨Jg, 8, none⟩ = some (.int .i64 Jf) := (zb Ja.o 8).trans rfl
     have Jah : wr.cell? ⟨Jg, 9, none⟩ = some (.int .i64 (-1)) := (zb Ja.o 9).trans rfl
     have DK := za Ja.o 0
     have DJ := za Ja.o 1
     have DI := za Ja.o 2
     have DF := za Ja.o 3
     have DD := za Ja.o 4
     have DC := za Ja.o 5
     have Dz := za Ja.o 6
     have Dy := za Ja.o 7
     have Dx := za Ja.o 8
     have Dw := za Ja.o 9
     go_wp2
     go_roundg k1
     case measure => have := HK1.o; omega
     case rel => exact ⟨(wrap64 (0 + 1)), ((-1)), (Jc), (Jd), (Je), (Jf), (by first | rfl | (simp; done) | (simp [*]; done) | kernel_rfl), H', ⟨by have := HK1.o; omega⟩, ⟨by (with_reducible repeat (first | refine zg ?_ _ | refine zi ?_ | refine zh ?_ _)); refine zB ?_ Jh.o _; (with_reducible repeat (first | refine zg ?_ _ | refine zi ?_ | refine zh ?_ _)); exact Jj.o⟩, ⟨by (with_reducible repeat (first | refine zg ?_ _ | refine zi ?_ | refine zh ?_ _)); refine zq (cs := #[.int .i64 0, .int .i64 0, .int .i64 0, .int .u64 a0, .int .i64 Jb, .int .i64 Jc, .int .i64 Jd, .int .i64 Je, .int .i64 Jf, .int .i64 (-1)]) ?_ 4 _ rfl; (with_reducible repeat (first | refine zg ?_ _ | refine zi ?_ | refine zh ?_ _)); exact Ja.o⟩, ⟨by repeat (first | (with_reducible first | exact HB.o | apply zl | apply zf | apply zk | refine zm ?_ Js.o | refine zm ?_ Jz.o) | exact HB.o)⟩⟩
    ·rw [if_neg c8] at H
     by_cases c11 : Jm = 1
     ·subst c11
      have H1 : (cards_None.l0 k1 (wrap64 (1 + 1)) 0 0 0 a0 Jb (-1) Jd Je Jf (-1)) = some (r1, r2, r3, r4, r5, r6, r7, r8, r9, r10) := by rw [if_pos rfl] at H; exact H
      clear H
      have H := H1
      clear H1
      have H' := ze.mk H
      clear H
      have hnb12 := Ji.o
      have hnc12 := Jh.o
      have Jag : wr.cell? ⟨Jg, 0, none⟩ = some (.int .i64 0) := (zb Ja.o 0).trans rfl
      have Jaf : wr.cell? ⟨Jg, 1, none⟩ = some (.int .i64 0) := (zb Ja.o 1).trans rfl
      have Jae : wr.cell? ⟨Jg, 2, none⟩ = some (.int .i64 0) := (zb Ja.o 2).trans rfl
      have Jad : wr.cell? ⟨Jg, 3, none⟩ = some (.int .u64 a0) := (zb Ja.o 3).trans rfl
      have Jac : wr.cell? ⟨Jg, 4, none⟩ = some (.int .i64 Jb) := (zb Ja.o 4).trans rfl
      have Jab : wr.cell? ⟨Jg, 5, none⟩ = some (.int .i64 Jc) := (zb Ja.o 5).trans rfl
      have Jaa : wr.cell? ⟨Jg, 6, none⟩ = some (.int .i64 Jd) := (zb Ja.o 6).trans rfl
      have BZ : wr.cell? ⟨Jg, 7, none⟩ = some (.int .i64 Je) := (zb Ja.o 7).trans rfl
      have BX : wr.cell? ⟨Jg, 8, none⟩ = some (.int .i64 Jf) := (zb Ja.o 8).trans rfl
      have BV : wr.cell? ⟨Jg, 9, none⟩ = some (.int .i64 (-1)) := (zb Ja.o 9).trans rfl
      have Dv := za Ja.o 0
      have Du := za Ja.o 1
      have Dt := za Ja.o 2
      have Dr := za Ja.o 3
      have Dq := za Ja.o 4
      have Dp := za Ja.o 5
      have Dn := za Ja.o 6
      have Dm := za Ja.o 7
      have Dl := za Ja.o 8
      have Dk := za Ja.o 9
      go_wp2
      go_roundg k1
      case measure => have := HK1.o; omega
      case rel => exact ⟨(wrap64 (1 + 1)), (Jb), ((-1)), (Jd), (Je), (Jf), (by first | rfl | (simp; done) | (simp [*]; done) | kernel_rfl), H', ⟨by have := HK1.o; omega⟩, ⟨by (with_reducible repeat (first | refine zg ?_ _ | refine zi ?_ | refine zh ?_ _)); refine zB ?_ Jh.o _; (with_reducible repeat (first | refine zg ?_ _ | refine zi ?_ | refine zh ?_ _)); exact Jj.o⟩, ⟨by (with_reducible repeat (first | refine zg ?_ _ | refine zi ?_ | refine zh ?_ _)); refine zq (cs := #[.int .i64 0, .int .i64 0, .int .i64 0, .int .u64 a0, .int .i64 Jb, .int .i64 Jc, .int .i64 Jd, .int .i64 Je, .int .i64 Jf, .int .i64 (-1)]) ?_ 5 _ rfl; (with_reducible repeat (first | refine zg ?_ _ | refine zi ?_ | refine zh ?_ _)); exact Ja.o⟩, ⟨by repeat (first | (with_reducible first | exact HB.o | apply zl | apply zf | apply zk | refine zm ?_ Js.o | refine zm ?_ Jz.o) | exact HB.o)⟩⟩
     ·rw [if_neg c11] at H
      by_cases c14 : Jm = 2
      ·subst c14
       have H1 : (cards_None.l0 k1 (wrap64 (2 + 1)) 0 0 0 a0 Jb Jc (-1) Je Jf (-1)) = some (r1, r2, r3, r4, r5, r6, r7, r8, r9, r10) := by rw [if_pos rfl] at H; exact H
       clear H
       have H := H1
       clear H1
       have H' := ze.mk H
       clear H
       have hnb15 := Ji.o
       have hnc15 := Jh.o
       have BU : wr.cell? ⟨Jg, 0, none⟩ = some (.int .i64 0) := (zb Ja.o 0).trans rfl
       have BS : wr.cell? ⟨Jg, 1, none⟩ = some (.int .i64 0) := (zb Ja.o 1).trans rfl
       have BR : wr.cell? ⟨Jg, 2, none⟩ = some (.int .i64 0) := (zb Ja.o 2).trans rfl
       have BQ : wr.cell? ⟨Jg, 3, none⟩ = some (.int .u64 a0) := (zb Ja.o 3).trans rfl
       have BP : wr.cell? ⟨Jg, 4, none⟩ = some (.int .i64 Jb) := (zb Ja.o 4).trans rfl
       have BO : wr.cell? ⟨Jg, 5, none⟩ = some (.int .i64 Jc) := (zb Ja.o 5).trans rfl
       have BM : wr.cell? ⟨Jg, 6, none⟩ = some (.int .i64 Jd) := (zb Ja.o 6).trans rfl
       have BL : wr.cell? ⟨Jg, 7, none⟩ = some (.int .i64 Je) := (zb Ja.o 7).trans rfl
       have BJ : wr.cell? ⟨Jg, 8, none⟩ = some (.int .i64 Jf) := (zb Ja.o 8).trans rfl
       have BI : wr.cell? ⟨Jg, 9, none⟩ = some (.int .i64 (-1)) := (zb Ja.o 9).trans rfl
       have Dj := za Ja.o 0
       have Di := za Ja.o 1
       have Dh := za Ja.o 2
       have Df := za Ja.o 3
       have De := za Ja.o 4
       have Dc := za Ja.o 5
       have Db := za Ja.o 6
       have Da := za Ja.o 7
       have G9 := za Ja.o 8
       have G8 := za Ja.o 9
       go_wp2
       go_roundg k1
       case measure => have := HK1.o; omega
       case rel => exact ⟨(wrap64 (2 + 1)), (Jb), (Jc), ((-1)), (Je), (Jf), (by first | rfl | (simp; done) | (simp [*]; done) | kernel_rfl), H', ⟨by have := HK1.o; omega⟩, ⟨by (with_reducible repeat (first | refine zg ?_ _ | refine zi ?_ | refine zh ?_ _)); refine zB ?_ Jh.o _; (with_reducible repeat (first | refine zg ?_ _ | refine zi ?_ | refine zh ?_ _)); exact Jj.o⟩, ⟨by (with_reducible repeat (first | refine zg ?_ _ | refine zi ?_ | refine zh ?_ _)); refine zq (cs := #[.int .i64 0, .int .i64 0, .int .i64 0, .int .u64 a0, .int .i64 Jb, .int .i64 Jc, .int .i64 Jd, .int .i64 Je, .int .i64 Jf, .int .i64 (-1)]) ?_ 6 _ rfl; (with_reducible repeat (first | refine zg ?_ _ | refine zi ?_ | refine zh ?_ _)); exact Ja.o⟩, ⟨by repeat (first | (with_reducible first | exact HB.o | apply zl | apply zf | apply zk | refine zm ?_ Js.o | refine zm ?_ Jz.o) | exact HB.o)⟩⟩
      ·rw [if_neg c14] at H
       by_cases c17 : Jm = 3
       ·subst c17
        have H1 : (cards_None.l0 k1 (wrap64 (3 + 1)) 0 0 0 a0 Jb Jc Jd (-1) Jf (-1)) = some (r1, r2, r3, r4, r5, r6, r7, r8, r9, r10) := by rw [if_pos rfl] at H; exact H
        clear H
        have H := H1
        clear H1
        have H' := ze.mk H
        clear H
        have hnb18 := Ji.o
        have hnc18 := Jh.o
        have BH : wr.cell? ⟨Jg, 0, none⟩ = some (.int .i64 0) := (zb Ja.o 0).trans rfl
        have BG : wr.cell? ⟨Jg, 1, none⟩ = some (.int .i64 0) := (zb Ja.o 1).trans rfl
        have BF : wr.cell? ⟨Jg, 2, none⟩ = some (.int .i64 0) := (zb Ja.o 2).trans rfl
        have BD : wr.cell? ⟨Jg, 3, none⟩ = some (.int .u64 a0) := (zb Ja.o 3).trans rfl
        have BC : wr.cell? ⟨Jg, 4, none⟩ = some (.int .i64 Jb) := (zb Ja.o 4).trans rfl
        have BA : wr.cell? ⟨Jg, 5, none⟩ = some (.int .i64 Jc) := (zb Ja.o 5).trans rfl
        have Bz : wr.cell? ⟨Jg, 6, none⟩ = some (.int .i64 Jd) := (zb Ja.o 6).trans rfl
        have Bw : wr.cell? ⟨Jg, 7, none⟩ = some (.int .i64 Je) := (zb Ja.o 7).trans rfl
        have Bv : wr.cell? ⟨Jg, 8, none⟩ = some (.int .i64 Jf) := (zb Ja.o 8).trans rfl
        have Bu : wr.cell? ⟨Jg, 9, none⟩ = some (.int .i64 (-1)) := (zb Ja.o 9).trans rfl
        have G7 := za Ja.o 0
        have G5 := za Ja.o 1
        have GZ := za Ja.o 2
        have GY := za Ja.o 3
        have GX := za Ja.o 4
        have GV := za Ja.o 5
        have GU := za Ja.o 6
        have GR := za Ja.o 7
        have GQ := za Ja.o 8
        have GM := za Ja.o 9
        go_wp2
        go_roundg k1
        case measure => have := HK1.o; omega
        case rel => exact ⟨(wrap64 (3 + 1)), (Jb), (Jc), (Jd), ((-1)), (Jf), (by first | rfl | (simp; done) | (simp [*]; done) | kernel_rfl), H', ⟨by have := HK1.o; omega⟩, ⟨by (with_reducible repeat (first | refine zg ?_ _ | refine zi ?_ | refine zh ?_ _)); refine zB ?_ Jh.o _; (with_reducible repeat (first | refine zg ?_ _ | refine zi ?_ | refine zh ?_ _)); exact Jj.o⟩, ⟨by (with_reducible repeat (first | refine zg ?_ _ | refine zi ?_ | refine zh ?_ _)); refine zq (cs := #[.int .i64 0, .int .i64 0, .int .i64 0, .int .u64 a0, .int .i64 Jb, .int .i64 Jc, .int .i64 Jd, .int .i64 Je, .int .i64 Jf, .int .i64 (-1)]) ?_ 7 _ rfl; (with_reducible repeat (first | refine zg ?_ _ | refine zi ?_ | refine zh ?_ _)); exact Ja.o⟩, ⟨by repeat (first | (with_reducible first | exact HB.o | apply zl | apply zf | apply zk | refine zm ?_ Js.o | refine zm ?_ Jz.o) | exact HB.o)⟩⟩
       ·rw [if_neg c17] at H
        by_cases c20 : Jm = 4
        ·subst c20
         have H1 : (cards_None.l0 k1 (wrap64 (4 + 1)) 0 0 0 a0 Jb Jc Jd Je (-1) (-1)) = some (r1, r2, r3, r4, r5, r6, r7, r8, r9, r10) := by rw [if_pos rfl] at H; exact H
         clear H
         have H := H1
         clear H1
         have H' := ze.mk H
         clear H
         have hnb21 := Ji.o
         have hnc21 := Jh.o
         have Bt : wr.cell? ⟨Jg, 0, none⟩ = some (.int .i64 0) := (zb Ja.o 0).trans rfl
         have Br : wr.cell? ⟨Jg, 1, none⟩ = some (.int .i64 0) := (zb Ja.o 1).trans rfl
         have Bq : wr.cell? ⟨Jg, 2, none⟩ = some (.int .i64 0) := (zb Ja.o 2).trans rfl
         have Bp : wr.cell? ⟨Jg, 3, none⟩ = some (.int .u64 a0) := (zb Ja.o 3).trans rfl
         have Bo : wr.cell? ⟨Jg, 4, none⟩ = some (.int .i64 Jb) := (zb Ja.o 4).trans rfl
         have Bn : wr.cell? ⟨Jg, 5, none⟩ = some (.int .i64 Jc) := (zb Ja.o 5).trans rfl
         have Bl : wr.cell? ⟨Jg, 6, none⟩ = some (.int .i64 Jd) := (zb Ja.o 6).trans rfl
         have Bj : wr.cell? ⟨Jg, 7, none⟩ = some (.int .i64 Je) := (zb Ja.o 7).trans rfl
         have Bi : wr.cell? ⟨Jg, 8, none⟩ = some (.int .i64 Jf) := (zb Ja.o 8).trans rfl
         have Bh : wr.cell? ⟨Jg, 9, none⟩ = some (.int .i64 (-1)) := (zb Ja.o 9).trans rfl
         have GL := za Ja.o 0
         have GK := za Ja.o 1
         have GJ := za Ja.o 2
         have GI := za Ja.o 3
         have GH := za Ja.o 4
         have GG := za Ja.o 5
         have GD := za Ja.o 6
         have Gz := za Ja.o 7
         have Gy := za Ja.o 8
         have Gx := za Ja.o 9
         go_wp2
         go_roundg k1
         case measure => have := HK1.o; omega
         case rel => exact ⟨(wrap64 (4 + 1)), (Jb), (Jc), (Jd), (Je), ((-1)), (by first | rfl | (simp; done) | (simp [*]; done) | kernel_rfl), H', ⟨by have := HK1.o; omega⟩, ⟨by (with_reducible repeat (first | refine zg ?_ _ | refine zi ?_ | refine zh ?_ _)); refine zB ?_ Jh.o _; (with_reducible repeat (first | refine zg ?_ _ | refine zi ?_ | refine zh ?_ _)); exact Jj.o⟩, ⟨by (with_reducible repeat (first | refine zg ?_ _ | refine zi ?_ | refine zh ?_ _)); refine zq (cs := #[.int .i64 0, .int .i64 0, .int .i64 0, .int .u64 a0, .int .i64 Jb, .int .i64 Jc, .int .i64 Jd, .int .i64 Je, .int .i64 Jf, .int .i64 (-1)]) ?_ 8 _ rfl; (with_reducible repeat (first | refine zg ?_ _ | refine zi ?_ | refine zh ?_ _)); exact Ja.o⟩, ⟨by repeat (first | (with_reducible first | exact HB.o | apply zl | apply zf | apply zk | refine zm ?_ Js.o | refine zm ?_ Jz.o) | exact HB.o)⟩⟩
        ·rw [if_neg c20] at H
         exact absurd H (by simp)
   ·rw [if_neg c7] at H
    have Jat : decide (Jm < 5) = false := decide_eq_false c7
    clear c7
    simp only [Option.some.injEq, Prod.mk.injEq] at H
    obtain ⟨rfl, rfl, rfl, rfl, rfl, rfl, rfl, rfl, rfl, rfl⟩ := H
    have hnb23 := Ji.o
    have hnc23 := Jh.o
    have Bg : wr.cell? ⟨Jg, 0, none⟩ = some (.int .i64 0) := (zb Ja.o 0).trans rfl
    have Bf : wr.cell? ⟨Jg, 1, none⟩ = some (.int .i64 0) := (zb Ja.o 1).trans rfl
    have Be : wr.cell? ⟨Jg, 2, none⟩ = some (.int .i64 0) := (zb Ja.o 2).trans rfl
    have Bd : wr.cell? ⟨Jg, 3, none⟩ = some (.int .u64 a0) := (zb Ja.o 3).trans rfl
    have Bc : wr.cell? ⟨Jg, 4, none⟩ = some (.int .i64 Jb) := (zb Ja.o 4).trans rfl
    have Bb : wr.cell? ⟨Jg, 5, none⟩ = some (.int .i64 Jc) := (zb Ja.o 5).trans rfl
    have Ba : wr.cell? ⟨Jg, 6, none⟩ = some (.int .i64 Jd) := (zb Ja.o 6).trans rfl
    have D7 : wr.cell? ⟨Jg, 7, none⟩ = some (.int .i64 Je) := (zb Ja.o 7).trans rfl
    have D6 : wr.cell? ⟨Jg, 8, none⟩ = some (.int .i64 Jf) := (zb Ja.o 8).trans rfl
    have D5 : wr.cell? ⟨Jg, 9, none⟩ = some (.int .i64 (-1)) := (zb Ja.o 9).trans rfl
    have Gw := za Ja.o 0
    have Gv := za Ja.o 1
    have Gu := za Ja.o 2
    have Gt := za Ja.o 3
    have Gs := za Ja.o 4
    have Gr := za Ja.o 5
    have Gq := za Ja.o 6
    have Gp := za Ja.o 7
    have Gn := za Ja.o 8
    have Gm := za Ja.o 9
    have DZ : wr.cell? ⟨Jk, 0, none⟩ = some (.int .i64 0) := (zb Jj.o 0).trans rfl
    have DY : wr.cell? ⟨Jk, 1, none⟩ = some (.int .i64 0) := (zb Jj.o 1).trans rfl
    have DX : wr.cell? ⟨Jk, 2, none⟩ = some (.int .i64 0) := (zb Jj.o 2).trans rfl
    have DW : wr.cell? ⟨Jk, 3, none⟩ = some (.int .u64 0) := (zb Jj.o 3).trans rfl
    have DV : wr.cell? ⟨Jk, 4, none⟩ = some (.int .i64 0) := (zb Jj.o 4).trans rfl
    have DU : wr.cell? ⟨Jk, 5, none⟩ = some (.int .i64 0) := (zb Jj.o 5).trans rfl
    have DT : wr.cell? ⟨Jk, 6, none⟩ = some (.int .i64 0) := (zb Jj.o 6).trans rfl
    have DR : wr.cell? ⟨Jk, 7, none⟩ = some (.int .i64 0) := (zb Jj.o 7).trans rfl
    have DN : wr.cell? ⟨Jk, 8, none⟩ = some (.int .i64 0) := (zb Jj.o 8).trans rfl
    have DL : wr.cell? ⟨Jk, 9, none⟩ = some (.int .i64 0) := (zb Jj.o 9).trans rfl
    have Gl := za Jj.o 0
    have Gj := za Jj.o 1
    have Gi := za Jj.o 2
    have Gh := za Jj.o 3
    have Gg := za Jj.o 4
    have Gf := za Jj.o 5
    have Gd := za Jj.o 6
    have Gc := za Jj.o 7
    have Gb := za Jj.o 8
    have Ga := za Jj.o 9
    go_wp2_with (first | ((with_reducible refine zJ (t := 45) (p := 2) rfl ?_); refine zH (t := 45) (p := 2) (v := ?vo_w26) (w1 := ((((((((((wr.setCell ⟨Jk, 0, none⟩ (.int .i64 0)).setCell ⟨Jk, 1, none⟩ (.int .i64 0)).setCell ⟨Jk, 2, none⟩ (.int .i64 0)).setCell ⟨Jk, 3, none⟩ (.int .u64 a0)).setCell ⟨Jk, 4, none⟩ (.int .i64 Jb)).setCell ⟨Jk, 5, none⟩ (.int .i64 Jc)).setCell ⟨Jk, 6, none⟩ (.int .i64 Jd)).setCell ⟨Jk, 7, none⟩ (.int .i64 Je)).setCell ⟨Jk, 8, none⟩ (.int .i64 Jf)).setCell ⟨Jk, 9, none⟩ (.int .i64 (-1)))) ?hg ?ho ?hn ?hr ?_; (case ho => rfl); (case hg => rfl); (case hn => rfl); (case hr => exact zL rfl rfl rfl (zP (P := Try.prog) (o := 0) (cur := #[.int .i64 0, .int .i64 0, .int .i64 0, .int .u64 0, .int .i64 0, .int .i64 0, .int .i64 0, .int .i64 0, .int .i64 0, .int .i64 0]) 45 (.agg #[.int .i64 0, .int .i64 0, .int .i64 0, .int .u64 a0, .int .i64 Jb, .int .i64 Jc, .int .i64 Jd, .int .i64 Je, .int .i64 Jf, .int .i64 (-1)]) [.int .i64 0, .int .i64 0, .int .i64 0, .int .u64 a0, .int .i64 Jb, .int .i64 Jc, .int .i64 Jd, .int .i64 Je, .int .i64 Jf, .int .i64 (-1)] (show _ = some (Obj.cells #[.int .i64 0, .int .i64 0, .int .i64 0, .int .u64 0, .int .i64 0, .int .i64 0, .int .i64 0, .int .i64 0, .int .i64 0, .int .i64 0] 45 (0, 0)) from (by (with_reducible repeat (first | refine zg ?_ _ | refine zi ?_ | refine zh ?_ _)); exact Jj.o)) rfl (by kernel_rfl) (show 10 ≤ 10 by decide) (by intro q_ hq_; simp only [List.mem_cons, List.not_mem_nil, or_false] at hq_; rcases hq_ with rfl | rfl | rfl | rfl | rfl | rfl | rfl | rfl | rfl | rfl <;> rfl))); intro w26 hw; have n0_ : ze (w26.heap[Jk]? = some (.cells #[.int .i64 0, .int .i64 0, .int .i64 0, .int .u64 a0, .int .i64 Jb, .int .i64 Jc, .int .i64 Jd, .int .i64 Je, .int .i64 Jf, .int .i64 (-1)] 45 (0, 0))) := ⟨(by rw [hw]; exact (by (with_reducible repeat (first | refine zg ?_ _ | refine zi ?_ | refine zh ?_ _)); refine zq (cs := #[.int .i64 0, .int .i64 0, .int .i64 0, .int .u64 a0, .int .i64 Jb, .int .i64 Jc, .int .i64 Jd, .int .i64 Je, .int .i64 Jf, .int .i64 0]) ?_ 9 _ rfl; (with_reducible repeat (first | refine zg ?_ _ | refine zi ?_ | refine zh ?_ _)); refine zq (cs := #[.int .i64 0, .int .i64 0, .int .i64 0, .int .u64 a0, .int .i64 Jb, .int .i64 Jc, .int .i64 Jd, .int .i64 Je, .int .i64 0, .int .i64 0]) ?_ 8 _ rfl; (with_reducible repeat (first | refine zg ?_ _ | refine zi ?_ | refine zh ?_ _)); refine zq (cs := #[.int .i64 0, .int .i64 0, .int .i64 0, .int .u64 a0, .int .i64 Jb, .int .i64 Jc, .int .i64 Jd, .int .i64 0, .int .i64 0, .int .i64 0]) ?_ 7 _ rfl; (with_reducible repeat (first | refine zg ?_ _ | refine zi ?_ | refine zh ?_ _)); refine zq (cs := #[.int .i64 0, .int .i64 0, .int .i64 0, .int .u64 a0, .int .i64 Jb, .int .i64 Jc, .int .i64 0, .int .i64 0, .int .i64 0, .int .i64 0]) ?_ 6 _ rfl; (with_reducible repeat (first | refine zg ?_ _ | refine zi ?_ | refine zh ?_ _)); refine zq (cs := #[.int .i64 0, .int .i64 0, .int .i64 0, .int .u64 a0, .int .i64 Jb, .int .i64 0, .int .i64 0, .int .i64 0, .int .i64 0, .int .i64 0]) ?_ 5 _ rfl; (with_reducible repeat (first | refine zg ?_ _ | refine zi ?_ | refine zh ?_ _)); refine zq (cs := #[.int .i64 0, .int .i64 0, .int .i64 0, .int .u64 a0, .int .i64 0, .int .i64 0, .int .i64 0, .int .i64 0, .int .i64 0, .int .i64 0]) ?_ 4 _ rfl; (with_reducible repeat (first | refine zg ?_ _ | refine zi ?_ | refine zh ?_ _)); refine zq (cs := #[.int .i64 0, .int .i64 0, .int .i64 0, .int .u64 0, .int .i64 0, .int .i64 0, .int .i64 0, .int .i64 0, .int .i64 0, .int .i64 0]) ?_ 3 _ rfl; (with_reducible repeat (first | refine zg ?_ _ | refine zi ?_ | refine zh ?_ _)); refine zq (cs := #[.int .i64 0, .int .i64 0, .int .i64 0, .int .u64 0, .int .i64 0, .int .i64 0, .int .i64 0, .int .i64 0, .int .i64 0, .int .i64 0]) ?_ 2 _ rfl; (with_reducible repeat (first | refine zg ?_ _ | refine zi ?_ | refine zh ?_ _)); refine zq (cs := #[.int .i64 0, .int .i64 0, .int .i64 0, .int .u64 0, .int .i64 0, .int .i64 0, .int .i64 0, .int .i64 0, .int .i64 0, .int .i64 0]) ?_ 1 _ rfl; (with_reducible repeat (first | refine zg ?_ _ | refine zi ?_ | refine zh ?_ _)); refine zq (cs := #[.int .i64 0, .int .i64 0, .int .i64 0, .int .u64 0, .int .i64 0, .int .i64 0, .int .i64 0, .int .i64 0, .int .i64 0, .int .i64 0]) ?_ 0 _ rfl; (with_reducible repeat (first | refine zg ?_ _ | refine zi ?_ | refine zh ?_ _)); exact Jj.o))⟩; have n1_ : ze (w26.heap[Jg]? = some (.cells #[.int .i64 0, .int .i64 0, .int .i64 0, .int .u64 a0, .int .i64 Jb, .int .i64 Jc, .int .i64 Jd, .int .i64 Je, .int .i64 Jf, .int .i64 (-1)] 45 (0, 0))) := ⟨(by rw [hw]; exact (by (with_reducible repeat (first | refine zg ?_ _ | refine zi ?_ | refine zh ?_ _)); refine zB ?_ Ji.o _; (with_reducible repeat (first | refine zg ?_ _ | refine zi ?_ | refine zh ?_ _)); refine zB ?_ Ji.o _; (with_reducible repeat (first | refine zg ?_ _ | refine zi ?_ | refine zh ?_ _)); refine zB ?_ Ji.o _; (with_reducible repeat (first | refine zg ?_ _ | refine zi ?_ | refine zh ?_ _)); refine zB ?_ Ji.o _; (with_reducible repeat (first | refine zg ?_ _ | refine zi ?_ | refine zh ?_ _)); refine zB ?_ Ji.o _; (with_reducible repeat (first | refine zg ?_ _ | refine zi ?_ | refine zh ?_ _)); refine zB ?_ Ji.o _; (with_reducible repeat (first | refine zg ?_ _ | refine zi ?_ | refine zh ?_ _)); refine zB ?_ Ji.o _; (with_reducible repeat (first | refine zg ?_ _ | refine zi ?_ | refine zh ?_ _)); refine zB ?_ Ji.o _; (with_reducible repeat (first | refine zg ?_ _ | refine zi ?_ | refine zh ?_ _)); refine zB ?_ Ji.o _; (with_reducible repeat (first | refine zg ?_ _ | refine zi ?_ | refine zh ?_ _)); refine zB ?_ Ji.o _; (with_reducible repeat (first | refine zg ?_ _ | refine zi ?_ | refine zh ?_ _)); exact Ja.o))⟩; have n2_ : ze (Below w.heap.size w w26) := ⟨(by rw [hw]; exact (by repeat (first | (with_reducible first | exact HB.o | apply zl | apply zf | apply zk | refine zm ?_ Js.o | refine zm ?_ Jz.o) | exact HB.o)))⟩; clear hw; clear Jj; clear Ja; clear HB; have Jj := n0_; have Ja := n1_; have HB := n2_; clear n0_ n1_ n2_))
    refine bodyPost_ret (results_cell_row rfl _ _ Jk 45 #[.int .i64 0, .int .i64 0, .int .i64 0, .int .u64 a0, .int .i64 Jb, .int .i64 Jc, .int .i64 Jd, .int .i64 Je, .int .i64 Jf, .int .i64 (-1)] (0, 0) _ rfl (by (with_reducible repeat (first | refine zg ?_ _ | refine zi ?_ | refine zh ?_ _)); exact Jj.o) Try.underlying45 rfl (by kernel_rfl)) rfl ?_
    exact ⟨by first | rfl | (simp [zy, zx] <;> rfl) | (simp [*, zy, zx] <;> rfl), by repeat (first | (with_reducible first | exact HB.o | apply zl | apply zf | apply zk | refine zm ?_ Js.o | refine zm ?_ Jz.o) | exact HB.o)⟩

/-! ### cards_odd: function 93 -/
def cards_odd.f (a0 : Int) : Option (Bool) := if a0 < (-1) then (some true) else (some (decide (a0 ≥ 96)))
set_option maxHeartbeats 8000000 in
set_option maxRecDepth 100000 in
theorem cards_odd.calls (a0 : Int) (r : Bool) (w : World) (h : cards_odd.f a0 = some r) :
  Calls Try.prog 93 #[.int .i64 a0] w fun e w' => e = .returned (.bool r) ∧ zN w w' := by
 have H : (if a0 < (-1) then (some true) else (some (decide (a0 ≥ 96)))) = some r := h
 clear h
 by_cases c2 : a0 < (-1)
 ·rw [if_pos c2] at H
  have c2b0 : decide (a0 < (-1)) = true := decide_eq_true c2
  clear c2
  obtain rfl := Option.some.inj H
  go_enter Try.func93, Try.ntmps93
  go_wp2
  go_ret
  exact ⟨by first | rfl | (simp; done) | (simp [*]; done), by repeat (first | exact zN.refl _ | apply zN.step)⟩
 ·rw [if_neg c2] at H
  have c2b0 : decide (a0 < (-1)) = false := decide_eq_false c2
  clear c2
  obtain rfl := Option.some.inj H
  go_enter Try.func93, Try.ntmps93
  go_wp2
  go_ret
  exact ⟨by first | rfl | (simp; done) | (simp [*]; done), by repeat (first | exact zN.refl _ | apply zN.step)⟩

end Go.Proofs.Ytkbhilhefnahpaa.Print
