import Derived.Test.YtldlacphokbgcaaPrint0
import Derived.Test.YtldlacphokbgcaaPrint7
namespace Go.Proofs.Ytldlacphokbgcaa.Print
open Go.RowKit Go.Proofs.YtldlacphokbgcaaW.PrintWords Go.Proofs.YtldlacphokbgcaaW.PrintLast Go.Proofs.YtldlacphokbgcaaW.PrintMore
attribute [local go_sem] max2_int min2_int max_two min_two max_three min_three max_four min_four   -- for this text's walks alone
set_option linter.unusedVariables false
set_option linter.unusedSimpArgs false

/-! ### escritoireref23_Join: function 25 -/
mutual
def escritoireref23_Join.j0 : Nat → List (S31) → List (S31) → Bool → Option ((List (S31)))
  | 0, _, _, _ => none
  | k + 1, x0, x1, x13 => if x13 = true then (some ([] : List (S31))) else (escritoireref23_Join.l0 k x0 x1 ([] : List (S31)))
def escritoireref23_Join.l0 : Nat → List (S31) → List (S31) → List (S31) → Option ((List (S31)))
  | 0, _, _, _ => none
  | k + 1, x0, x1, x5 => if (x0.length : Int) > 0 then (escritoireref23_Join.j2 k x0 x1 x5 true) else (escritoireref23_Join.j2 k x0 x1 x5 (decide ((x1.length : Int) > 0)))
def escritoireref23_Join.j2 : Nat → List (S31) → List (S31) → List (S31) → Bool → Option ((List (S31)))
  | 0, _, _, _, _ => none
  | k + 1, x0, x1, x5, x21 => if x21 = true then (if (x1.length : Int) = 0 then (escritoireref23_Join.j3 k x0 x1 x5 true) else (if (x0.length : Int) > 0 then (if 0 < (x0.length : Int) then (if 0 < (x1.length : Int) then (escritoireref23_Join.j3 k x0 x1 x5 (decide (((rd_T31 x0 0).f0) < ((rd_T31 x1 0).f0)))) else (none)) else (none)) else (escritoireref23_Join.j3 k x0 x1 x5 false))) else (some x5)
def escritoireref23_Join.j3 : Nat → List (S31) → List (S31) → List (S31) → Bool → Option ((List (S31)))
  | 0, _, _, _, _ => none
  | k + 1, x0, x1, x5, x40 => if x40 = true then (if 0 < (x0.length : Int) then (if x5.length < 8796093022208 then (if 1 ≤ (x0.length : Int) then (escritoireref23_Join.l0 k (x0.drop 1) x1 (x5 ++ [(⟨(rd_T31 x0 0).f0, (rd_T31 x0 0).f1⟩ : S31)])) else (none)) else (none)) else (none)) else (if (x0.length : Int) > 0 then (if 0 < (x0.length : Int) then (if 0 < (x1.length : Int) then (if ((rd_T31 x0 0).f0) = ((rd_T31 x1 0).f0) then (if 1 ≤ (x0.length : Int) then (if x5.length < 8796093022208 then (if 1 ≤ (x1.length : Int) then (escritoireref23_Join.l0 k (x0.drop 1) (x1.drop 1) (x5 ++ [(⟨(rd_T31 x1 0).f0, (rd_T31 x1 0).f1⟩ : S31)])) else (none)) else (none)) else (none)) else (if x5.length < 8796093022208 then (if 1 ≤ (x1.length : Int) then (escritoireref23_Join.l0 k x0 (x1.drop 1) (x5 ++ [(⟨(rd_T31 x1 0).f0, (rd_T31 x1 0).f1⟩ : S31)])) else (none)) else (none))) else (none)) else (none)) else (if 0 < (x1.length : Int) then (if x5.length < 8796093022208 then (if 1 ≤ (x1.length : Int) then (escritoireref23_Join.l0 k x0 (x1.drop 1) (x5 ++ [(⟨(rd_T31 x1 0).f0, (rd_T31 x1 0).f1⟩ : S31)])) else (none)) else (none)) else (none)))
end
def escritoireref23_Join.f (k : Nat) (l0 : List (S31)) (l1 : List (S31)) : Option ((List (S31))) := (escritoireref23_Right.f k l0).bind fun t505 => (if t505 = true then ((escritoireref23_Right.f k l1).bind fun t506 => (escritoireref23_Join.j0 k l0 l1 (!t506))) else (escritoireref23_Join.j0 k l0 l1 true))
set_option maxHeartbeats 8000000 in
set_option maxRecDepth 100000 in
theorem escritoireref23_Join.calls (k : Nat) (P0_ : Nat → Prop) (A0 : Option Addr) (c0 : Nat) (l0 : List (S31)) (P1_ : Nat → Prop) (A1 : Option Addr) (c1 : Nat) (l1 : List (S31)) (r : List (S31)) (w : World) (hs0 : Kd.V k31 31 w w.heap.size (fun k_ => P0_ k_) (.slice A0 l0.length c0) l0) (hs1 : Kd.V k31 31 w w.heap.size (fun k_ => P1_ k_) (.slice A1 l1.length c1) l1) (h : escritoireref23_Join.f k l0 l1 = some r) :
    Calls Try.prog 25 #[.slice A0 l0.length c0, .slice A1 l1.length c1] w fun e w' => ∃ v0_ : Value, e = .returned (v0_) ∧ Kd.R k31 31 w' w.heap.size (fun k_ => (w.heap.size ≤ k_)) v0_ r ∧ Below w.heap.size w w' := by
  have hu31 := Try.underlying31
  have HO0 := Aside0.mk (show Kd.V k31 31 w w.heap.size (fun k_ => ((P0_ k_ ∨ P1_ k_) ∨ w.heap.size ≤ k_)) (.slice A0 l0.length c0) l0 from Kd.V_mono hs0 (fun k_ hk => .inl (.inl hk)))
  have HO1 := Aside0.mk (show Kd.V k31 31 w w.heap.size (fun k_ => ((P0_ k_ ∨ P1_ k_) ∨ w.heap.size ≤ k_)) (.slice A1 l1.length c1) l1 from Kd.V_mono hs1 (fun k_ hk => .inl (.inr hk)))
  have HB := Aside0.mk (Below.refl w.heap.size w)
  have H : ((escritoireref23_Right.f k l0).bind fun t505 => (if t505 = true then ((escritoireref23_Right.f k l1).bind fun t506 => (escritoireref23_Join.j0 k l0 l1 (!t506))) else (escritoireref23_Join.j0 k l0 l1 true))) = some r := h
  clear h
  have HC3 := Aside0.mk H
  clear H
  go_enter Try.func25, Try.ntmps25
  go_upto_region 1 with (fail)
  repeat (go_quiet (fail); go_upto_region 1 with (fail))
  go_cut [13] (fun v13 wc => ∃ (kq : Nat) (x13_2 : Bool), v13 = .bool x13_2 ∧ Aside0 (escritoireref23_Join.j0 kq l0 l1 x13_2 = some r) ∧ Aside0 (kq ≤ k) ∧ Aside0 (Kd.V k31 31 wc w.heap.size (fun k_ => ((P0_ k_ ∨ P1_ k_) ∨ w.heap.size ≤ k_)) (.slice A0 l0.length c0) l0) ∧ Aside0 (Kd.V k31 31 wc w.heap.size (fun k_ => ((P0_ k_ ∨ P1_ k_) ∨ w.heap.size ≤ k_)) (.slice A1 l1.length c1) l1) ∧ Aside0 (Below w.heap.size w wc))
  case first =>
    have H := HC3.out
    clear HC3
    replace H := Option.bind_eq_some_iff.mp H
    obtain ⟨t505, A40, H⟩ := H
    replace H : (if t505 = true then ((escritoireref23_Right.f k l1).bind fun t506 => (escritoireref23_Join.j0 k l0 l1 (!t506))) else (escritoireref23_Join.j0 k l0 l1 true)) = some r := H
    have A4 := Aside0.mk A40
    clear A40
    by_cases c5 : t505 = true
    · subst c5
      have H1 : ((escritoireref23_Right.f k l1).bind fun t506 => (escritoireref23_Join.j0 k l0 l1 (!t506))) = some r := by rw [if_pos rfl] at H; exact H
      clear H
      have H := H1
      clear H1
      replace H := Option.bind_eq_some_iff.mp H
      obtain ⟨t506, A60, H⟩ := H
      replace H : (escritoireref23_Join.j0 k l0 l1 (!t506)) = some r := H
      have A6 := Aside0.mk A60
      clear A60
      have H' := Aside0.mk H
      clear H
      go_wp2_with (first | (go_at_call 21; (with_reducible refine (escritoireref23_Right.calls k _ _ l0 true _ ?side1 ?side2 A4.out).mono ?_); (case side1 => repeat (first | exact (Kd.V_reads' HO0.out).2.2 | (with_reducible refine Kd.C_alloc ?_ _) | (with_reducible refine Kd.C_drewN ?_ _) | (with_reducible refine Kd.C_drew ?_))); (case side2 => exact (Kd.V_reads' HO0.out).2.1); rintro e w' ⟨rfl, ⟨nd, rfl⟩⟩; (try first | exact ⟨rfl, _, World.drewN_drewN _ _ _⟩ | exact ⟨rfl, _, Eq.trans (World.drewN_drewN _ _ _) (congrArg (World.drewN _) (Nat.add_assoc _ _ _))⟩)) | (go_at_call 21; (with_reducible refine (escritoireref23_Right.calls k _ _ l1 t506 _ ?side1 ?side2 A6.out).mono ?_); (case side1 => repeat (first | exact (Kd.V_reads' HO1.out).2.2 | (with_reducible refine Kd.C_alloc ?_ _) | (with_reducible refine Kd.C_drewN ?_ _) | (with_reducible refine Kd.C_drew ?_))); (case side2 => exact (Kd.V_reads' HO1.out).2.1); rintro e w' ⟨rfl, ⟨nd, rfl⟩⟩; (try first | exact ⟨rfl, _, World.drewN_drewN _ _ _⟩ | exact ⟨rfl, _, Eq.trans (World.drewN_drewN _ _ _) (congrArg (World.drewN _) (Nat.add_assoc _ _ _))⟩)))
      repeat (go_quiet (first | (go_at_call 21; (try simp only [i64_w, i32_w]); (with_reducible refine (escritoireref23_Right.calls k _ _ l0 true _ ?side1 ?side2 A4.out).mono ?_); (case side1 => repeat (first | exact (Kd.V_reads' HO0.out).2.2 | (with_reducible refine Kd.C_alloc ?_ _) | (with_reducible refine Kd.C_drewN ?_ _) | (with_reducible refine Kd.C_drew ?_))); (case side2 => exact (Kd.V_reads' HO0.out).2.1); rintro e w' ⟨rfl, ⟨nd, rfl⟩⟩; (try first | exact ⟨rfl, _, World.drewN_drewN _ _ _⟩ | exact ⟨rfl, _, Eq.trans (World.drewN_drewN _ _ _) (congrArg (World.drewN _) (Nat.add_assoc _ _ _))⟩)) | (go_at_call 21; (try simp only [i64_w, i32_w]); (with_reducible refine (escritoireref23_Right.calls k _ _ l1 t506 _ ?side1 ?side2 A6.out).mono ?_); (case side1 => repeat (first | exact (Kd.V_reads' HO1.out).2.2 | (with_reducible refine Kd.C_alloc ?_ _) | (with_reducible refine Kd.C_drewN ?_ _) | (with_reducible refine Kd.C_drew ?_))); (case side2 => exact (Kd.V_reads' HO1.out).2.1); rintro e w' ⟨rfl, ⟨nd, rfl⟩⟩; (try first | exact ⟨rfl, _, World.drewN_drewN _ _ _⟩ | exact ⟨rfl, _, Eq.trans (World.drewN_drewN _ _ _) (congrArg (World.drewN _) (Nat.add_assoc _ _ _))⟩))); try go_wp2_with (first | (go_at_call 21; (with_reducible refine (escritoireref23_Right.calls k _ _ l0 true _ ?side1 ?side2 A4.out).mono ?_); (case side1 => repeat (first | exact (Kd.V_reads' HO0.out).2.2 | (with_reducible refine Kd.C_alloc ?_ _) | (with_reducible refine Kd.C_drewN ?_ _) | (with_reducible refine Kd.C_drew ?_))); (case side2 => exact (Kd.V_reads' HO0.out).2.1); rintro e w' ⟨rfl, ⟨nd, rfl⟩⟩; (try first | exact ⟨rfl, _, World.drewN_drewN _ _ _⟩ | exact ⟨rfl, _, Eq.trans (World.drewN_drewN _ _ _) (congrArg (World.drewN _) (Nat.add_assoc _ _ _))⟩)) | (go_at_call 21; (with_reducible refine (escritoireref23_Right.calls k _ _ l1 t506 _ ?side1 ?side2 A6.out).mono ?_); (case side1 => repeat (first | exact (Kd.V_reads' HO1.out).2.2 | (with_reducible refine Kd.C_alloc ?_ _) | (with_reducible refine Kd.C_drewN ?_ _) | (with_reducible refine Kd.C_drew ?_))); (case side2 => exact (Kd.V_reads' HO1.out).2.1); rintro e w' ⟨rfl, ⟨nd, rfl⟩⟩; (try first | exact ⟨rfl, _, World.drewN_drewN _ _ _⟩ | exact ⟨rfl, _, Eq.trans (World.drewN_drewN _ _ _) (congrArg (World.drewN _) (Nat.add_assoc _ _ _))⟩))))
      go_meet
      case rel => exact ⟨_, (!t506), (by first | rfl | (simp; done) | (simp [*]; done) | kernel_rfl), H', ⟨by first | omega | exact Nat.le_refl _⟩, ⟨by (with_reducible repeat (first | apply Kd.V_alloc | apply Kd.V_drewN | apply Kd.V_drew)); exact HO0.out⟩, ⟨by (with_reducible repeat (first | apply Kd.V_alloc | apply Kd.V_drewN | apply Kd.V_drew)); exact HO1.out⟩, ⟨by repeat (first | (with_reducible first | exact HB.out | apply below_alloc | apply pw_below_drewN | apply below_drew1) | exact HB.out)⟩⟩
    · replace c5 := Bool.eq_false_iff.mpr c5
      subst c5
      have H1 : (escritoireref23_Join.j0 k l0 l1 true) = some r := by rw [if_neg (show ¬ (false = true) by decide)] at H; exact H
      clear H
      have H := H1
      clear H1
      have H' := Aside0.mk H
      clear H
      go_wp2_with (first | (go_at_call 21; (with_reducible refine (escritoireref23_Right.calls k _ _ l0 false _ ?side1 ?side2 A4.out).mono ?_); (case side1 => repeat (first | exact (Kd.V_reads' HO0.out).2.2 | (with_reducible refine Kd.C_alloc ?_ _) | (with_reducible refine Kd.C_drewN ?_ _) | (with_reducible refine Kd.C_drew ?_))); (case side2 => exact (Kd.V_reads' HO0.out).2.1); rintro e w' ⟨rfl, ⟨nd, rfl⟩⟩; (try first | exact ⟨rfl, _, World.drewN_drewN _ _ _⟩ | exact ⟨rfl, _, Eq.trans (World.drewN_drewN _ _ _) (congrArg (World.drewN _) (Nat.add_assoc _ _ _))⟩)))
      repeat (go_quiet (first | (go_at_call 21; (try simp only [i64_w, i32_w]); (with_reducible refine (escritoireref23_Right.calls k _ _ l0 false _ ?side1 ?side2 A4.out).mono ?_); (case side1 => repeat (first | exact (Kd.V_reads' HO0.out).2.2 | (with_reducible refine Kd.C_alloc ?_ _) | (with_reducible refine Kd.C_drewN ?_ _) | (with_reducible refine Kd.C_drew ?_))); (case side2 => exact (Kd.V_reads' HO0.out).2.1); rintro e w' ⟨rfl, ⟨nd, rfl⟩⟩; (try first | exact ⟨rfl, _, World.drewN_drewN _ _ _⟩ | exact ⟨rfl, _, Eq.trans (World.drewN_drewN _ _ _) (congrArg (World.drewN _) (Nat.add_assoc _ _ _))⟩))); try go_wp2_with (first | (go_at_call 21; (with_reducible refine (escritoireref23_Right.calls k _ _ l0 false _ ?side1 ?side2 A4.out).mono ?_); (case side1 => repeat (first | exact (Kd.V_reads' HO0.out).2.2 | (with_reducible refine Kd.C_alloc ?_ _) | (with_reducible refine Kd.C_drewN ?_ _) | (with_reducible refine Kd.C_drew ?_))); (case side2 => exact (Kd.V_reads' HO0.out).2.1); rintro e w' ⟨rfl, ⟨nd, rfl⟩⟩; (try first | exact ⟨rfl, _, World.drewN_drewN _ _ _⟩ | exact ⟨rfl, _, Eq.trans (World.drewN_drewN _ _ _) (congrArg (World.drewN _) (Nat.add_assoc _ _ _))⟩))))
      go_meet
      case rel => exact ⟨_, (true), (by first | rfl | (simp; done) | (simp [*]; done) | kernel_rfl), H', ⟨by first | omega | exact Nat.le_refl _⟩, ⟨by (with_reducible repeat (first | apply Kd.V_alloc | apply Kd.V_drewN | apply Kd.V_drew)); exact HO0.out⟩, ⟨by (with_reducible repeat (first | apply Kd.V_alloc | apply Kd.V_drewN | apply Kd.V_drew)); exact HO1.out⟩, ⟨by repeat (first | (with_reducible first | exact HB.out | apply below_alloc | apply pw_below_drewN | apply below_drew1) | exact HB.out)⟩⟩
  case rest =>
    clear HC3
    try clear c1
    try clear c2
    try clear p2
    try clear c5
    obtain ⟨kq, x13_2, rfl, HA, HJ2, HO_0, HO_1, HB⟩ := hcut
    cases kq with
    | zero => exact absurd HA.out (by simp [escritoireref23_Join.j0])
    | succ kj2 =>
      have H := HA.out
      clear HA
      simp only [escritoireref23_Join.j0] at H
      by_cases c7 : x13_2 = true
      · subst c7
        have H1 : (some ([] : List (S31))) = some r := by rw [if_pos rfl] at H; exact H
        clear H
        have H := H1
        clear H1
        obtain rfl := Option.some.inj H
        go_wp2
        repeat (go_quiet (fail); try go_wp2)
        go_ret
        exact ⟨_, by first | rfl | (simp [errW_none, errW_some] <;> rfl) | (simp [*, errW_none, errW_some] <;> rfl), by first | exact Kd.R_nil _ _ _ _ _ | exact Kd.N_nil _ _ _ _ _ | exact Kd.V_nil _ _ _ _ _ | exact Kd.Q_nil _ _ _ _ _ | exact Kd.S_nil _ _ _ _ _, by repeat (first | (with_reducible first | exact HB.out | apply below_alloc | apply pw_below_drewN | apply below_drew1) | exact HB.out)⟩
      · replace c7 := Bool.eq_false_iff.mpr c7
        subst c7
        have H1 : (escritoireref23_Join.l0 kj2 l0 l1 ([] : List (S31))) = some r := by rw [if_neg (show ¬ (false = true) by decide)] at H; exact H
        clear H
        have H := H1
        clear H1
        have H' := Aside0.mk H
        clear H
        go_wp2
        repeat (go_quiet (fail); try go_wp2)
        go_loopg [0, 1, 5] kj2 (fun kq v0 v1 v5 w' => ∃ (x0_2 : List (S31)) (x1_2 : List (S31)) (x5_2 : List (S31)), Aside0 (escritoireref23_Join.l0 kq x0_2 x1_2 x5_2 = some r) ∧ Aside0 (kq ≤ kj2) ∧ Aside0 (Kd.V k31 31 w' w.heap.size (fun k_ => ((P0_ k_ ∨ P1_ k_) ∨ w.heap.size ≤ k_) ∧ some k_ ≠ (v5 : Value).ownBlock) v0 x0_2) ∧ Aside0 (Kd.V k31 31 w' w.heap.size (fun k_ => ((P0_ k_ ∨ P1_ k_) ∨ w.heap.size ≤ k_) ∧ some k_ ≠ (v5 : Value).ownBlock) v1 x1_2) ∧ Aside0 (Kd.R k31 31 w' w.heap.size (fun k_ => (w.heap.size ≤ k_)) v5 x5_2) ∧ Aside0 (Below w.heap.size w w'))
        case atStart => exact ⟨(l0), (l1), (([] : List (S31))), H', ⟨Nat.le_refl _⟩, ⟨by (with_reducible repeat (first | apply Kd.V_alloc | apply Kd.V_drewN | apply Kd.V_drew)); exact Kd.V_mono HO_0.out (fun _ hk => ⟨hk, (by simp [Value.ownBlock])⟩)⟩, ⟨by (with_reducible repeat (first | apply Kd.V_alloc | apply Kd.V_drewN | apply Kd.V_drew)); exact Kd.V_mono HO_1.out (fun _ hk => ⟨hk, (by simp [Value.ownBlock])⟩)⟩, ⟨by first | exact Kd.R_nil _ _ _ _ _ | exact Kd.N_nil _ _ _ _ _ | exact Kd.V_nil _ _ _ _ _ | exact Kd.Q_nil _ _ _ _ _ | exact Kd.S_nil _ _ _ _ _⟩, ⟨by repeat (first | (with_reducible first | exact HB.out | apply below_alloc | apply pw_below_drewN | apply below_drew1) | exact HB.out)⟩⟩
        case round =>
          clear H'
          try clear c1
          try clear c2
          try clear p2
          try clear c5
          try clear c7
          try clear p2
          obtain ⟨x0_2, x1_2, x5_2, HA, HK2, HO_0, HO_1, HO_5, HB⟩ := hrel
          cases gk with
          | zero => exact absurd HA.out (by simp [escritoireref23_Join.l0])
          | succ k2 =>
            have H := HA.out
            clear HA
            simp only [escritoireref23_Join.l0] at H
            have HC8 := Aside0.mk H
            clear H
            go_upto_region 4 with (fail)
            repeat (go_quiet (fail); go_upto_region 4 with (fail))
            go_cut [21] (fun v21 wc => ∃ (kq : Nat) (x21_7 : Bool), v21 = .bool x21_7 ∧ Aside0 (escritoireref23_Join.j2 kq x0_2 x1_2 x5_2 x21_7 = some r) ∧ Aside0 (kq ≤ k2) ∧ Aside0 (Kd.V k31 31 wc w.heap.size (fun k_ => ((P0_ k_ ∨ P1_ k_) ∨ w.heap.size ≤ k_) ∧ some k_ ≠ (u5 : Value).ownBlock) u0 x0_2) ∧ Aside0 (Kd.V k31 31 wc w.heap.size (fun k_ => ((P0_ k_ ∨ P1_ k_) ∨ w.heap.size ≤ k_) ∧ some k_ ≠ (u5 : Value).ownBlock) u1 x1_2) ∧ Aside0 (Kd.R k31 31 wc w.heap.size (fun k_ => (w.heap.size ≤ k_)) u5 x5_2) ∧ Aside0 (Below w.heap.size w wc))
            case first =>
              have H := HC8.out
              clear HC8
              by_cases c9 : (x0_2.length : Int) > 0
              · rw [if_pos c9] at H
                have c9b0 : decide (0 < (x0_2.length : Int)) = true := decide_eq_true c9
                have c9b1 : decide (0 < x0_2.length) = true := decide_eq_true (by omega)
                clear c9
                (first | rw [c9b0] | (simp only [i64_w, i32_w]; rw [c9b0]) | skip)
                have H' := Aside0.mk H
                clear H
                obtain ⟨Ao10, co10, eo10⟩ := Kd.V_slice HO_0.out
                subst eo10
                go_wp2
                repeat (go_quiet (fail); try go_wp2)
                go_meet
                case rel => exact ⟨_, (true), (by first | rfl | (simp; done) | (simp [*]; done) | kernel_rfl), H', ⟨by have := HJ2.out; have := HK2.out; first | omega | exact Nat.le_refl _⟩, ⟨by (with_reducible repeat (first | apply Kd.V_alloc | apply Kd.V_drewN | apply Kd.V_drew)); exact HO_0.out⟩, ⟨by (with_reducible repeat (first | apply Kd.V_alloc | apply Kd.V_drewN | apply Kd.V_drew)); exact HO_1.out⟩, ⟨by (with_reducible repeat (first | apply Kd.R_alloc | apply Kd.R_drewN | apply Kd.R_drew)); exact HO_5.out⟩, ⟨by repeat (first | (with_reducible first | exact HB.out | apply below_alloc | apply pw_below_drewN | apply below_drew1) | exact HB.out)⟩⟩
              · rw [if_neg c9] at H
                have c9b0 : decide (0 < (x0_2.length : Int)) = false := decide_eq_false c9
                have c9b1 : decide (0 < x0_2.length) = false := decide_eq_false (by omega)
                clear c9
                (first | rw [c9b0] | (simp only [i64_w, i32_w]; rw [c9b0]) | skip)
                have H' := Aside0.mk H
                clear H
                obtain ⟨Ao11, co11, eo11⟩ := Kd.V_slice HO_0.out
                subst eo11
                obtain ⟨Ao12, co12, eo12⟩ := Kd.V_slice HO_1.out
                subst eo12
                go_wp2
                repeat (go_quiet (fail); try go_wp2)
                go_meet
                case rel => exact ⟨_, (decide ((x1_2.length : Int) > 0)), (by first | rfl | (simp; done) | (simp [*]; done) | kernel_rfl), H', ⟨by have := HJ2.out; have := HK2.out; first | omega | exact Nat.le_refl _⟩, ⟨by (with_reducible repeat (first | apply Kd.V_alloc | apply Kd.V_drewN | apply Kd.V_drew)); exact HO_0.out⟩, ⟨by (with_reducible repeat (first | apply Kd.V_alloc | apply Kd.V_drewN | apply Kd.V_drew)); exact HO_1.out⟩, ⟨by (with_reducible repeat (first | apply Kd.R_alloc | apply Kd.R_drewN | apply Kd.R_drew)); exact HO_5.out⟩, ⟨by repeat (first | (with_reducible first | exact HB.out | apply below_alloc | apply pw_below_drewN | apply below_drew1) | exact HB.out)⟩⟩
            case rest =>
              clear HC8
              try clear c1
              try clear c2
              try clear p2
              try clear c5
              try clear c7
              try clear c9
              try clear c9b0
              try clear c9b1
              try clear p2
              obtain ⟨kq, x21_7, rfl, HA, HJ7, HO_0, HO_1, HO_5, HB⟩ := hcut
              cases kq with
              | zero => exact absurd HA.out (by simp [escritoireref23_Join.j2])
              | succ kj7 =>
                have H := HA.out
                clear HA
                simp only [escritoireref23_Join.j2] at H
                by_cases c13 : x21_7 = true
                · subst c13
                  have H1 : (if (x1_2.length : Int) = 0 then (escritoireref23_Join.j3 kj7 x0_2 x1_2 x5_2 true) else (if (x0_2.length : Int) > 0 then (if 0 < (x0_2.length : Int) then (if 0 < (x1_2.length : Int) then (escritoireref23_Join.j3 kj7 x0_2 x1_2 x5_2 (decide (((rd_T31 x0_2 0).f0) < ((rd_T31 x1_2 0).f0)))) else (none)) else (none)) else (escritoireref23_Join.j3 kj7 x0_2 x1_2 x5_2 false))) = some r := by rw [if_pos rfl] at H; exact H
                  clear H
                  have H := H1
                  clear H1
                  have HC14 := Aside0.mk H
                  clear H
                  go_upto_region 5 with (fail)
                  repeat (go_quiet (fail); go_upto_region 5 with (fail))
                  go_cut [40] (fun v40 wc => ∃ (kq : Nat) (x40_13 : Bool), v40 = .bool x40_13 ∧ Aside0 (escritoireref23_Join.j3 kq x0_2 x1_2 x5_2 x40_13 = some r) ∧ Aside0 (kq ≤ kj7) ∧ Aside0 (Kd.V k31 31 wc w.heap.size (fun k_ => ((P0_ k_ ∨ P1_ k_) ∨ w.heap.size ≤ k_) ∧ some k_ ≠ (u5 : Value).ownBlock) u0 x0_2) ∧ Aside0 (Kd.V k31 31 wc w.heap.size (fun k_ => ((P0_ k_ ∨ P1_ k_) ∨ w.heap.size ≤ k_) ∧ some k_ ≠ (u5 : Value).ownBlock) u1 x1_2) ∧ Aside0 (Kd.R k31 31 wc w.heap.size (fun k_ => (w.heap.size ≤ k_)) u5 x5_2) ∧ Aside0 (Below w.heap.size w wc))
                  case first =>
                    have H := HC14.out
                    clear HC14
                    by_cases c15 : (x1_2.length : Int) = 0
                    · rw [if_pos c15] at H
                      have c15b0 : ((x1_2.length : Int) == 0) = true := beq_iff_eq.mpr c15
                      have c15b1 : ((x1_2.length : Int) != 0) = false := bne_eq_false_iff_eq.mpr c15
                      clear c15
                      (first | rw [c15b0] | (simp only [i64_w, i32_w]; rw [c15b0]) | skip)
                      have H' := Aside0.mk H
                      clear H
                      obtain ⟨Ao16, co16, eo16⟩ := Kd.V_slice HO_1.out
                      subst eo16
                      go_wp2
                      repeat (go_quiet (fail); try go_wp2)
                      go_meet
                      case rel => exact ⟨_, (true), (by first | rfl | (simp; done) | (simp [*]; done) | kernel_rfl), H', ⟨by have := HJ2.out; have := HK2.out; have := HJ7.out; first | omega | exact Nat.le_refl _⟩, ⟨by (with_reducible repeat (first | apply Kd.V_alloc | apply Kd.V_drewN | apply Kd.V_drew)); exact HO_0.out⟩, ⟨by (with_reducible repeat (first | apply Kd.V_alloc | apply Kd.V_drewN | apply Kd.V_drew)); exact HO_1.out⟩, ⟨by (with_reducible repeat (first | apply Kd.R_alloc | apply Kd.R_drewN | apply Kd.R_drew)); exact HO_5.out⟩, ⟨by repeat (first | (with_reducible first | exact HB.out | apply below_alloc | apply pw_below_drewN | apply below_drew1) | exact HB.out)⟩⟩
                    · rw [if_neg c15] at H
                      have c15b0 : ((x1_2.length : Int) == 0) = false := beq_eq_false_iff_ne.mpr c15
                      have c15b1 : ((x1_2.length : Int) != 0) = true := bne_iff_ne.mpr c15
                      have c15b2 : ¬ (x1_2 = []) := fun h_ => c15 (by rw [h_]; rfl)
                      (first | rw [c15b0] | (simp only [i64_w, i32_w]; rw [c15b0]) | skip)
                      by_cases c17 : (x0_2.length : Int) > 0
                      · rw [if_pos c17] at H
                        have c17b0 : decide (0 < (x0_2.length : Int)) = true := decide_eq_true c17
                        have c17b1 : decide (0 < x0_2.length) = true := decide_eq_true (by omega)
                        clear c17
                        by_cases c18 : 0 < (x0_2.length : Int)
                        · rw [if_pos c18] at H
                          have c18b0 : decide (0 < (x0_2.length : Int)) = true := decide_eq_true c18
                          have c18b1 : decide (0 < x0_2.length) = true := decide_eq_true (by omega)
                          clear c18
                          by_cases c19 : 0 < (x1_2.length : Int)
                          · rw [if_pos c19] at H
                            have c19b0 : decide (0 < (x1_2.length : Int)) = true := decide_eq_true c19
                            have c19b1 : decide (0 < x1_2.length) = true := decide_eq_true (by omega)
                            clear c19
                            have H' := Aside0.mk H
                            clear H
                            obtain ⟨Ao20, co20, eo20⟩ := Kd.V_slice HO_1.out
                            subst eo20
                            obtain ⟨Ao21, co21, eo21⟩ := Kd.V_slice HO_0.out
                            subst eo21
                            have p507 : 0 ≤ (0 : Int) := (by omega)
                            have q507 : 0 < (x0_2.length : Int) := of_decide_eq_true (by first | (with_reducible assumption) | assumption)
                            obtain ⟨ad507, e507, hx507_0, hx507_1⟩ := at_T31 (Kd.V_reads' HO_0.out).2.2 0 p507 q507
                            cases e507
                            have qi507 : (0 < x0_2.length) = True := eq_true (by omega)
                            (try rw [show ((0 : Int)).toNat = 0 from rfl] at hx507_0)
                            (try rw [show 0 * 2 = 0 from rfl] at hx507_0)
                            (try rw [Addr.add_zero'] at hx507_0)
                            (try rw [show ((0 : Int)).toNat = 0 from rfl] at hx507_1)
                            (try rw [show 0 * 2 = 0 from rfl] at hx507_1)
                            (try rw [Addr.add_zero'] at hx507_1)
                            replace p507 := eq_true p507
                            replace q507 := eq_true q507
                            have p508 : 0 ≤ (0 : Int) := (by omega)
                            have q508 : 0 < (x1_2.length : Int) := of_decide_eq_true (by first | (with_reducible assumption) | assumption)
                            obtain ⟨ad508, e508, hx508_0, hx508_1⟩ := at_T31 (Kd.V_reads' HO_1.out).2.2 0 p508 q508
                            cases e508
                            have qi508 : (0 < x1_2.length) = True := eq_true (by omega)
                            (try rw [show ((0 : Int)).toNat = 0 from rfl] at hx508_0)
                            (try rw [show 0 * 2 = 0 from rfl] at hx508_0)
                            (try rw [Addr.add_zero'] at hx508_0)
                            (try rw [show ((0 : Int)).toNat = 0 from rfl] at hx508_1)
                            (try rw [show 0 * 2 = 0 from rfl] at hx508_1)
                            (try rw [Addr.add_zero'] at hx508_1)
                            replace p508 := eq_true p508
                            replace q508 := eq_true q508
                            go_wp2
                            repeat (go_quiet (fail); try go_wp2)
                            go_meet
                            case rel => exact ⟨_, (decide (((rd_T31 x0_2 0).f0) < ((rd_T31 x1_2 0).f0))), (by first | rfl | (simp; done) | (simp [*]; done) | kernel_rfl), H', ⟨by have := HJ2.out; have := HK2.out; have := HJ7.out; first | omega | exact Nat.le_refl _⟩, ⟨by (with_reducible repeat (first | apply Kd.V_alloc | apply Kd.V_drewN | apply Kd.V_drew)); exact HO_0.out⟩, ⟨by (with_reducible repeat (first | apply Kd.V_alloc | apply Kd.V_drewN | apply Kd.V_drew)); exact HO_1.out⟩, ⟨by (with_reducible repeat (first | apply Kd.R_alloc | apply Kd.R_drewN | apply Kd.R_drew)); exact HO_5.out⟩, ⟨by repeat (first | (with_reducible first | exact HB.out | apply below_alloc | apply pw_below_drewN | apply below_drew1) | exact HB.out)⟩⟩
                          · rw [if_neg c19] at H
                            exact absurd H (by simp)
                        · rw [if_neg c18] at H
                          exact absurd H (by simp)
                      · rw [if_neg c17] at H
                        have c17b0 : decide (0 < (x0_2.length : Int)) = false := decide_eq_false c17
                        have c17b1 : decide (0 < x0_2.length) = false := decide_eq_false (by omega)
                        clear c17
                        have H' := Aside0.mk H
                        clear H
                        obtain ⟨Ao22, co22, eo22⟩ := Kd.V_slice HO_1.out
                        subst eo22
                        obtain ⟨Ao23, co23, eo23⟩ := Kd.V_slice HO_0.out
                        subst eo23
                        go_wp2
                        repeat (go_quiet (fail); try go_wp2)
                        go_meet
                        case rel => exact ⟨_, (false), (by first | rfl | (simp; done) | (simp [*]; done) | kernel_rfl), H', ⟨by have := HJ2.out; have := HK2.out; have := HJ7.out; first | omega | exact Nat.le_refl _⟩, ⟨by (with_reducible repeat (first | apply Kd.V_alloc | apply Kd.V_drewN | apply Kd.V_drew)); exact HO_0.out⟩, ⟨by (with_reducible repeat (first | apply Kd.V_alloc | apply Kd.V_drewN | apply Kd.V_drew)); exact HO_1.out⟩, ⟨by (with_reducible repeat (first | apply Kd.R_alloc | apply Kd.R_drewN | apply Kd.R_drew)); exact HO_5.out⟩, ⟨by repeat (first | (with_reducible first | exact HB.out | apply below_alloc | apply pw_below_drewN | apply below_drew1) | exact HB.out)⟩⟩
                  case rest =>
                    clear HC14
                    try clear c1
                    try clear c2
                    try clear p2
                    try clear c5
                    try clear p5
                    try clear q5
                    try clear hx5
                    try clear qi5
                    try clear c7
                    try clear c9
                    try clear c9b0
                    try clear c9b1
                    try clear c13
                    try clear c15
                    try clear c15b0
                    try clear c15b1
                    try clear c15b2
                    try clear c17
                    try clear c17b0
                    try clear c17b1
                    try clear c18
                    try clear c18b0
                    try clear c18b1
                    try clear c19
                    try clear c19b0
                    try clear c19b1
                    try clear hx507_0
                    try clear hx507_1
                    try clear hx508_0
                    try clear hx508_1
                    try clear p2
                    try clear p507
                    try clear p508
                    try clear q507
                    try clear q508
                    obtain ⟨kq, x40_13, rfl, HA, HJ13, HO_0, HO_1, HO_5, HB⟩ := hcut
                    cases kq with
                    | zero => exact absurd HA.out (by simp [escritoireref23_Join.j3])
                    | succ kj13 =>
                      have H := HA.out
                      clear HA
                      simp only [escritoireref23_Join.j3] at H
                      by_cases c24 : x40_13 = true
                      · subst c24
                        have H1 : (if 0 < (x0_2.length : Int) then (if x5_2.length < 8796093022208 then (if 1 ≤ (x0_2.length : Int) then (escritoireref23_Join.l0 kj13 (x0_2.drop 1) x1_2 (x5_2 ++ [(⟨(rd_T31 x0_2 0).f0, (rd_T31 x0_2 0).f1⟩ : S31)])) else (none)) else (none)) else (none)) = some r := by rw [if_pos rfl] at H; exact H
                        clear H
                        have H := H1
                        clear H1
                        by_cases c25 : 0 < (x0_2.length : Int)
                        · rw [if_pos c25] at H
                          have c25b0 : decide (0 < (x0_2.length : Int)) = true := decide_eq_true c25
                          have c25b1 : decide (0 < x0_2.length) = true := decide_eq_true (by omega)
                          clear c25
                          by_cases c26 : x5_2.length < 8796093022208
                          · rw [if_pos c26] at H
                            have LMc26 := Aside0.mk c26
                            clear c26
                            obtain ⟨y510, hy510⟩ : ∃ y_ : List (S31), y_ = (x5_2 ++ [(⟨(rd_T31 x0_2 0).f0, (rd_T31 x0_2 0).f1⟩ : S31)]) := ⟨_, rfl⟩
                            replace H : (if 1 ≤ (x0_2.length : Int) then (escritoireref23_Join.l0 kj13 (x0_2.drop 1) x1_2 y510) else (none)) = some r := by first | (rw [hy510]; with_reducible exact H) | (have H2_ := (Option.bind_some _ _).symm.trans H; rw [hy510]; with_reducible exact H2_) | (have H2_ := (Option.bind_some _ _).symm.trans H; with_reducible exact H2_) | with_reducible exact H | (rw [hy510]; exact H) | exact H
                            have Ny510 := Aside0.mk hy510
                            clear hy510
                            by_cases c27 : 1 ≤ (x0_2.length : Int)
                            · rw [if_pos c27] at H
                              have c27b0 := eq_true c27
                              have c27b1 : decide (1 ≤ (x0_2.length : Int)) = true := decide_eq_true c27
                              clear c27
                              obtain ⟨y513, hy513⟩ : ∃ y_ : List (S31), y_ = (x0_2.drop 1) := ⟨_, rfl⟩
                              replace H : (escritoireref23_Join.l0 kj13 y513 x1_2 y510) = some r := by first | (rw [hy513]; with_reducible exact H) | (have H2_ := (Option.bind_some _ _).symm.trans H; rw [hy513]; with_reducible exact H2_) | (have H2_ := (Option.bind_some _ _).symm.trans H; with_reducible exact H2_) | with_reducible exact H | (rw [hy513]; exact H) | exact H
                              have Ny513 := Aside0.mk hy513
                              clear hy513
                              have H' := Aside0.mk H
                              clear H
                              obtain ⟨Ao28, co28, eo28⟩ := Kd.V_slice HO_0.out
                              subst eo28
                              have p509 : 0 ≤ (0 : Int) := (by omega)
                              have q509 : 0 < (x0_2.length : Int) := of_decide_eq_true (by first | (with_reducible assumption) | assumption)
                              obtain ⟨ad509, e509, hx509_0, hx509_1⟩ := at_T31 (Kd.V_reads' HO_0.out).2.2 0 p509 q509
                              cases e509
                              have qi509 : (0 < x0_2.length) = True := eq_true (by omega)
                              (try rw [show ((0 : Int)).toNat = 0 from rfl] at hx509_0)
                              (try rw [show 0 * 2 = 0 from rfl] at hx509_0)
                              (try rw [Addr.add_zero'] at hx509_0)
                              (try rw [show ((0 : Int)).toNat = 0 from rfl] at hx509_1)
                              (try rw [show 0 * 2 = 0 from rfl] at hx509_1)
                              (try rw [Addr.add_zero'] at hx509_1)
                              replace p509 := eq_true p509
                              replace q509 := eq_true q509
                              go_wp2_with (first | ((with_reducible refine gate_builtin (b := .append) (xs := #[.tmp 41, .tmp 45]) rfl ?_); (try (refine gate_guard (by rfl) ?_; dsimp only)); at_builtin; refine Kd.R_append k31 (w0 := w) w.heap.size rfl (.tmp 41) (.tmp 45) 22 31 (.agg #[(.int .i64 0), (.int .u64 0)]) 16 rfl Try.underlying22 info31 rfl (by decide) (by omega) u5 x5_2 (⟨(rd_T31 x0_2 0).f0, (rd_T31 x0_2 0).f1⟩ : S31) [.int .i64 ((rd_T31 x0_2 0).f0), .int .u64 ((rd_T31 x0_2 0).f1)] (fun k_ => (w.heap.size ≤ k_)) (fun _ => False) rfl rfl ?aP (fun _ hk => hk.elim) ?aF ?aO ?aB ?aS ?aL ?_; (case aP => exact k31_mkM _ _ _ (⟨(rd_T31 x0_2 0).f0, (rd_T31 x0_2 0).f1⟩ : S31)); (case aB => exact (by repeat (first | (with_reducible first | exact HB.out | apply below_alloc | apply pw_below_drewN | apply below_drew1) | exact HB.out))); (case aF => exact (fun k_ hk => (Nat.le_trans (below_size (by repeat (first | (with_reducible first | exact HB.out | apply below_alloc | apply pw_below_drewN | apply below_drew1) | exact HB.out))) hk))); (case aO => exact (by (with_reducible repeat (first | apply Kd.R_alloc | apply Kd.R_drewN | apply Kd.R_drew)); exact HO_5.out)); (case aS => exact (below_size (by repeat (first | (with_reducible first | exact HB.out | apply below_alloc | apply pw_below_drewN | apply below_drew1) | exact HB.out)))); (case aL => have := LMc26.out; omega); intro v511 w29 ho hb hg hat; rw [← Ny510.out] at ho; have n0_ := Aside0.mk (Kd.V_afterv (ok := (fun k_ => ((P0_ k_ ∨ P1_ k_) ∨ w.heap.size ≤ k_))) (by (with_reducible repeat (first | apply Kd.V_alloc | apply Kd.V_drewN | apply Kd.V_drew)); exact HO_0.out) hg hat); have n1_ := Aside0.mk (Kd.V_afterv (ok := (fun k_ => ((P0_ k_ ∨ P1_ k_) ∨ w.heap.size ≤ k_))) (by (with_reducible repeat (first | apply Kd.V_alloc | apply Kd.V_drewN | apply Kd.V_drew)); exact HO_1.out) hg hat); have n2_ := Aside0.mk (hb); have n3_ := Aside0.mk (ho); clear HO_0; clear HO_1; clear HB; clear HO_5; have HO_0 := n0_; have HO_1 := n1_; have HB := n2_; have HO512 := n3_; clear n0_ n1_ n2_ n3_; clear ho hb hg hat; have q30 : (1 : Int) ≤ ((x0_2.length : Int) : Int) := of_decide_eq_true (by first | (with_reducible assumption) | assumption); obtain ⟨i030, hi030, _, hsz30, _⟩ := info_parts info31; have hroom30 : x0_2.length ≤ co28 := (Kd.V_reads' HO_0.out).2.1; have hC30 : Kd.F k31 _ _ (some ad509) x0_2.length x0_2 := (Kd.V_at (base := w.heap.size) HO_0.out).2.2; have hcut30 := cut_from (P := Try.prog) 22 31 .i64 Try.underlying22 hi030 2 hsz30 (some ad509) x0_2.length co28 1 (by omega) q30; have hr30 := Kd.F_cut (m := (1 : Int).toNat) (c := co28) hC30 (by omega) hroom30; obtain ⟨A30, hA30⟩ : ∃ A1, A1 = (if co28 = (1 : Int).toNat then (some ad509) else ((some ad509) : Option Addr).map (·.add ((1 : Int).toNat * 2))) := ⟨_, rfl⟩; obtain ⟨c30, hc30⟩ : ∃ c1, c1 = co28 - (1 : Int).toNat := ⟨_, rfl⟩; have hy30 : y513.length = x0_2.length - (1 : Int).toNat := (by rw [Ny513.out, List.length_drop] <;> omega); rw [show (x0_2).drop (1 : Int).toNat = y513 from Ny513.out.symm] at hr30; replace hr30 : Kd.F k31 _ _ A30 y513.length y513 := (by rw [hA30]; exact hr30); rw [← hy30, ← hA30, ← hc30] at hcut30; have HO517 := Aside0.mk (show Kd.V k31 31 _ w.heap.size _ (.slice A30 y513.length c30) y513 from Kd.V_mk (by rw [hy30, hc30]; exact Nat.sub_le_sub_right hroom30 _) hr30); have HC517 := Aside0.mk (show y513.length ≤ c30 from by rw [hy30, hc30]; exact Nat.sub_le_sub_right hroom30 _); clear hr30 hC30 hroom30 hi030 hsz30 hc30; have KY30 := Aside0.mk hy30; have KA30 := Aside0.mk hA30; clear hy30 hA30; replace q30 := eq_true q30))
                              repeat (go_quiet (first | ((with_reducible refine gate_builtin (b := .append) (xs := #[.tmp 41, .tmp 45]) rfl ?_); (try (refine gate_guard (by rfl) ?_; dsimp only)); at_builtin; refine Kd.R_append k31 (w0 := w) w.heap.size rfl (.tmp 41) (.tmp 45) 22 31 (.agg #[(.int .i64 0), (.int .u64 0)]) 16 rfl Try.underlying22 info31 rfl (by decide) (by omega) u5 x5_2 (⟨(rd_T31 x0_2 0).f0, (rd_T31 x0_2 0).f1⟩ : S31) [.int .i64 ((rd_T31 x0_2 0).f0), .int .u64 ((rd_T31 x0_2 0).f1)] (fun k_ => (w.heap.size ≤ k_)) (fun _ => False) rfl rfl ?aP (fun _ hk => hk.elim) ?aF ?aO ?aB ?aS ?aL ?_; (case aP => exact k31_mkM _ _ _ (⟨(rd_T31 x0_2 0).f0, (rd_T31 x0_2 0).f1⟩ : S31)); (case aB => exact (by repeat (first | (with_reducible first | exact HB.out | apply below_alloc | apply pw_below_drewN | apply below_drew1) | exact HB.out))); (case aF => exact (fun k_ hk => (Nat.le_trans (below_size (by repeat (first | (with_reducible first | exact HB.out | apply below_alloc | apply pw_below_drewN | apply below_drew1) | exact HB.out))) hk))); (case aO => exact (by (with_reducible repeat (first | apply Kd.R_alloc | apply Kd.R_drewN | apply Kd.R_drew)); exact HO_5.out)); (case aS => exact (below_size (by repeat (first | (with_reducible first | exact HB.out | apply below_alloc | apply pw_below_drewN | apply below_drew1) | exact HB.out)))); (case aL => have := LMc26.out; omega); intro v511 w29 ho hb hg hat; rw [← Ny510.out] at ho; have n0_ := Aside0.mk (Kd.V_afterv (ok := (fun k_ => ((P0_ k_ ∨ P1_ k_) ∨ w.heap.size ≤ k_))) (by (with_reducible repeat (first | apply Kd.V_alloc | apply Kd.V_drewN | apply Kd.V_drew)); exact HO_0.out) hg hat); have n1_ := Aside0.mk (Kd.V_afterv (ok := (fun k_ => ((P0_ k_ ∨ P1_ k_) ∨ w.heap.size ≤ k_))) (by (with_reducible repeat (first | apply Kd.V_alloc | apply Kd.V_drewN | apply Kd.V_drew)); exact HO_1.out) hg hat); have n2_ := Aside0.mk (hb); have n3_ := Aside0.mk (ho); clear HO_0; clear HO_1; clear HB; clear HO_5; have HO_0 := n0_; have HO_1 := n1_; have HB := n2_; have HO512 := n3_; clear n0_ n1_ n2_ n3_; clear ho hb hg hat; have q30 : (1 : Int) ≤ ((x0_2.length : Int) : Int) := of_decide_eq_true (by first | (with_reducible assumption) | assumption); obtain ⟨i030, hi030, _, hsz30, _⟩ := info_parts info31; have hroom30 : x0_2.length ≤ co28 := (Kd.V_reads' HO_0.out).2.1; have hC30 : Kd.F k31 _ _ (some ad509) x0_2.length x0_2 := (Kd.V_at (base := w.heap.size) HO_0.out).2.2; have hcut30 := cut_from (P := Try.prog) 22 31 .i64 Try.underlying22 hi030 2 hsz30 (some ad509) x0_2.length co28 1 (by omega) q30; have hr30 := Kd.F_cut (m := (1 : Int).toNat) (c := co28) hC30 (by omega) hroom30; obtain ⟨A30, hA30⟩ : ∃ A1, A1 = (if co28 = (1 : Int).toNat then (some ad509) else ((some ad509) : Option Addr).map (·.add ((1 : Int).toNat * 2))) := ⟨_, rfl⟩; obtain ⟨c30, hc30⟩ : ∃ c1, c1 = co28 - (1 : Int).toNat := ⟨_, rfl⟩; have hy30 : y513.length = x0_2.length - (1 : Int).toNat := (by rw [Ny513.out, List.length_drop] <;> omega); rw [show (x0_2).drop (1 : Int).toNat = y513 from Ny513.out.symm] at hr30; replace hr30 : Kd.F k31 _ _ A30 y513.length y513 := (by rw [hA30]; exact hr30); rw [← hy30, ← hA30, ← hc30] at hcut30; have HO517 := Aside0.mk (show Kd.V k31 31 _ w.heap.size _ (.slice A30 y513.length c30) y513 from Kd.V_mk (by rw [hy30, hc30]; exact Nat.sub_le_sub_right hroom30 _) hr30); have HC517 := Aside0.mk (show y513.length ≤ c30 from by rw [hy30, hc30]; exact Nat.sub_le_sub_right hroom30 _); clear hr30 hC30 hroom30 hi030 hsz30 hc30; have KY30 := Aside0.mk hy30; have KA30 := Aside0.mk hA30; clear hy30 hA30; replace q30 := eq_true q30)); try go_wp2_with (first | ((with_reducible refine gate_builtin (b := .append) (xs := #[.tmp 41, .tmp 45]) rfl ?_); (try (refine gate_guard (by rfl) ?_; dsimp only)); at_builtin; refine Kd.R_append k31 (w0 := w) w.heap.size rfl (.tmp 41) (.tmp 45) 22 31 (.agg #[(.int .i64 0), (.int .u64 0)]) 16 rfl Try.underlying22 info31 rfl (by decide) (by omega) u5 x5_2 (⟨(rd_T31 x0_2 0).f0, (rd_T31 x0_2 0).f1⟩ : S31) [.int .i64 ((rd_T31 x0_2 0).f0), .int .u64 ((rd_T31 x0_2 0).f1)] (fun k_ => (w.heap.size ≤ k_)) (fun _ => False) rfl rfl ?aP (fun _ hk => hk.elim) ?aF ?aO ?aB ?aS ?aL ?_; (case aP => exact k31_mkM _ _ _ (⟨(rd_T31 x0_2 0).f0, (rd_T31 x0_2 0).f1⟩ : S31)); (case aB => exact (by repeat (first | (with_reducible first | exact HB.out | apply below_alloc | apply pw_below_drewN | apply below_drew1) | exact HB.out))); (case aF => exact (fun k_ hk => (Nat.le_trans (below_size (by repeat (first | (with_reducible first | exact HB.out | apply below_alloc | apply pw_below_drewN | apply below_drew1) | exact HB.out))) hk))); (case aO => exact (by (with_reducible repeat (first | apply Kd.R_alloc | apply Kd.R_drewN | apply Kd.R_drew)); exact HO_5.out)); (case aS => exact (below_size (by repeat (first | (with_reducible first | exact HB.out | apply below_alloc | apply pw_below_drewN | apply below_drew1) | exact HB.out)))); (case aL => have := LMc26.out; omega); intro v511 w29 ho hb hg hat; rw [← Ny510.out] at ho; have n0_ := Aside0.mk (Kd.V_afterv (ok := (fun k_ => ((P0_ k_ ∨ P1_ k_) ∨ w.heap.size ≤ k_))) (by (with_reducible repeat (first | apply Kd.V_alloc | apply Kd.V_drewN | apply Kd.V_drew)); exact HO_0.out) hg hat); have n1_ := Aside0.mk (Kd.V_afterv (ok := (fun k_ => ((P0_ k_ ∨ P1_ k_) ∨ w.heap.size ≤ k_))) (by (with_reducible repeat (first | apply Kd.V_alloc | apply Kd.V_drewN | apply Kd.V_drew)); exact HO_1.out) hg hat); have n2_ := Aside0.mk (hb); have n3_ := Aside0.mk (ho); clear HO_0; clear HO_1; clear HB; clear HO_5; have HO_0 := n0_; have HO_1 := n1_; have HB := n2_; have HO512 := n3_; clear n0_ n1_ n2_ n3_; clear ho hb hg hat; have q30 : (1 : Int) ≤ ((x0_2.length : Int) : Int) := of_decide_eq_true (by first | (with_reducible assumption) | assumption); obtain ⟨i030, hi030, _, hsz30, _⟩ := info_parts info31; have hroom30 : x0_2.length ≤ co28 := (Kd.V_reads' HO_0.out).2.1; have hC30 : Kd.F k31 _ _ (some ad509) x0_2.length x0_2 := (Kd.V_at (base := w.heap.size) HO_0.out).2.2; have hcut30 := cut_from (P := Try.prog) 22 31 .i64 Try.underlying22 hi030 2 hsz30 (some ad509) x0_2.length co28 1 (by omega) q30; have hr30 := Kd.F_cut (m := (1 : Int).toNat) (c := co28) hC30 (by omega) hroom30; obtain ⟨A30, hA30⟩ : ∃ A1, A1 = (if co28 = (1 : Int).toNat then (some ad509) else ((some ad509) : Option Addr).map (·.add ((1 : Int).toNat * 2))) := ⟨_, rfl⟩; obtain ⟨c30, hc30⟩ : ∃ c1, c1 = co28 - (1 : Int).toNat := ⟨_, rfl⟩; have hy30 : y513.length = x0_2.length - (1 : Int).toNat := (by rw [Ny513.out, List.length_drop] <;> omega); rw [show (x0_2).drop (1 : Int).toNat = y513 from Ny513.out.symm] at hr30; replace hr30 : Kd.F k31 _ _ A30 y513.length y513 := (by rw [hA30]; exact hr30); rw [← hy30, ← hA30, ← hc30] at hcut30; have HO517 := Aside0.mk (show Kd.V k31 31 _ w.heap.size _ (.slice A30 y513.length c30) y513 from Kd.V_mk (by rw [hy30, hc30]; exact Nat.sub_le_sub_right hroom30 _) hr30); have HC517 := Aside0.mk (show y513.length ≤ c30 from by rw [hy30, hc30]; exact Nat.sub_le_sub_right hroom30 _); clear hr30 hC30 hroom30 hi030 hsz30 hc30; have KY30 := Aside0.mk hy30; have KA30 := Aside0.mk hA30; clear hy30 hA30; replace q30 := eq_true q30)))
                              go_roundg kj13
                              case measure => have := HJ2.out; have := HK2.out; have := HJ7.out; have := HJ13.out; omega
                              case rel => exact ⟨(y513), (x1_2), (y510), H', ⟨by have := HJ2.out; have := HK2.out; have := HJ7.out; have := HJ13.out; omega⟩, ⟨by (with_reducible repeat (first | apply Kd.V_alloc | apply Kd.V_drewN | apply Kd.V_drew)); exact HO517.out⟩, ⟨by (with_reducible repeat (first | apply Kd.V_alloc | apply Kd.V_drewN | apply Kd.V_drew)); exact HO_1.out⟩, ⟨by (with_reducible repeat (first | apply Kd.R_alloc | apply Kd.R_drewN | apply Kd.R_drew)); exact HO512.out⟩, ⟨by repeat (first | (with_reducible first | exact HB.out | apply below_alloc | apply pw_below_drewN | apply below_drew1) | exact HB.out)⟩⟩
                            · rw [if_neg c27] at H
                              exact absurd H (by simp)
                          · rw [if_neg c26] at H
                            exact absurd H (by simp)
                        · rw [if_neg c25] at H
                          exact absurd H (by simp)
                      · replace c24 := Bool.eq_false_iff.mpr c24
                        subst c24
                        have H1 : (if (x0_2.length : Int) > 0 then (if 0 < (x0_2.length : Int) then (if 0 < (x1_2.length : Int) then (if ((rd_T31 x0_2 0).f0) = ((rd_T31 x1_2 0).f0) then (if 1 ≤ (x0_2.length : Int) then (if x5_2.length < 8796093022208 then (if 1 ≤ (x1_2.length : Int) then (escritoireref23_Join.l0 kj13 (x0_2.drop 1) (x1_2.drop 1) (x5_2 ++ [(⟨(rd_T31 x1_2 0).f0, (rd_T31 x1_2 0).f1⟩ : S31)])) else (none)) else (none)) else (none)) else (if x5_2.length < 8796093022208 then (if 1 ≤ (x1_2.length : Int) then (escritoireref23_Join.l0 kj13 x0_2 (x1_2.drop 1) (x5_2 ++ [(⟨(rd_T31 x1_2 0).f0, (rd_T31 x1_2 0).f1⟩ : S31)])) else (none)) else (none))) else (none)) else (none)) else (if 0 < (x1_2.length : Int) then (if x5_2.length < 8796093022208 then (if 1 ≤ (x1_2.length : Int) then (escritoireref23_Join.l0 kj13 x0_2 (x1_2.drop 1) (x5_2 ++ [(⟨(rd_T31 x1_2 0).f0, (rd_T31 x1_2 0).f1⟩ : S31)])) else (none)) else (none)) else (none))) = some r := by rw [if_neg (show ¬ (false = true) by decide)] at H; exact H
                        clear H
                        have H := H1
                        clear H1
                        by_cases c31 : (x0_2.length : Int) > 0
                        · rw [if_pos c31] at H
                          have c31b0 : decide (0 < (x0_2.length : Int)) = true := decide_eq_true c31
                          have c31b1 : decide (0 < x0_2.length) = true := decide_eq_true (by omega)
                          clear c31
                          by_cases c32 : 0 < (x0_2.length : Int)
                          · rw [if_pos c32] at H
                            have c32b0 : decide (0 < (x0_2.length : Int)) = true := decide_eq_true c32
                            have c32b1 : decide (0 < x0_2.length) = true := decide_eq_true (by omega)
                            clear c32
                            by_cases c33 : 0 < (x1_2.length : Int)
                            · rw [if_pos c33] at H
                              have c33b0 : decide (0 < (x1_2.length : Int)) = true := decide_eq_true c33
                              have c33b1 : decide (0 < x1_2.length) = true := decide_eq_true (by omega)
                              clear c33
                              by_cases c34 : ((rd_T31 x0_2 0).f0) = ((rd_T31 x1_2 0).f0)
                              · rw [if_pos c34] at H
                                have c34b0 : (((rd_T31 x0_2 0).f0) == ((rd_T31 x1_2 0).f0)) = true := beq_iff_eq.mpr c34
                                have c34b1 : (((rd_T31 x0_2 0).f0) != ((rd_T31 x1_2 0).f0)) = false := bne_eq_false_iff_eq.mpr c34
                                clear c34
                                by_cases c35 : 1 ≤ (x0_2.length : Int)
                                · rw [if_pos c35] at H
                                  have c35b0 := eq_true c35
                                  have c35b1 : decide (1 ≤ (x0_2.length : Int)) = true := decide_eq_true c35
                                  clear c35
                                  obtain ⟨y520, hy520⟩ : ∃ y_ : List (S31), y_ = (x0_2.drop 1) := ⟨_, rfl⟩
                                  replace H : (if x5_2.length < 8796093022208 then (if 1 ≤ (x1_2.length : Int) then (escritoireref23_Join.l0 kj13 y520 (x1_2.drop 1) (x5_2 ++ [(⟨(rd_T31 x1_2 0).f0, (rd_T31 x1_2 0).f1⟩ : S31)])) else (none)) else (none)) = some r := by first | (rw [hy520]; with_reducible exact H) | (have H2_ := (Option.bind_some _ _).symm.trans H; rw [hy520]; with_reducible exact H2_) | (have H2_ := (Option.bind_some _ _).symm.trans H; with_reducible exact H2_) | with_reducible exact H | (rw [hy520]; exact H) | exact H
                                  have Ny520 := Aside0.mk hy520
                                  clear hy520
                                  by_cases c36 : x5_2.length < 8796093022208
                                  · rw [if_pos c36] at H
                                    have LMc36 := Aside0.mk c36
                                    clear c36
                                    obtain ⟨y526, hy526⟩ : ∃ y_ : List (S31), y_ = (x5_2 ++ [(⟨(rd_T31 x1_2 0).f0, (rd_T31 x1_2 0).f1⟩ : S31)]) := ⟨_, rfl⟩
                                    replace H : (if 1 ≤ (x1_2.length : Int) then (escritoireref23_Join.l0 kj13 y520 (x1_2.drop 1) y526) else (none)) = some r := by first | (rw [hy526]; with_reducible exact H) | (have H2_ := (Option.bind_some _ _).symm.trans H; rw [hy526]; with_reducible exact H2_) | (have H2_ := (Option.bind_some _ _).symm.trans H; with_reducible exact H2_) | with_reducible exact H | (rw [hy526]; exact H) | exact H
                                    have Ny526 := Aside0.mk hy526
                                    clear hy526
                                    by_cases c37 : 1 ≤ (x1_2.length : Int)
                                    · rw [if_pos c37] at H
                                      have c37b0 := eq_true c37
                                      have c37b1 : decide (1 ≤ (x1_2.length : Int)) = true := decide_eq_true c37
                                      clear c37
                                      obtain ⟨y529, hy529⟩ : ∃ y_ : List (S31), y_ = (x1_2.drop 1) := ⟨_, rfl⟩
                                      replace H : (escritoireref23_Join.l0 kj13 y520 y529 y526) = some r := by first | (rw [hy529]; with_reducible exact H) | (have H2_ := (Option.bind_some _ _).symm.trans H; rw [hy529]; with_reducible exact H2_) | (have H2_ := (Option.bind_some _ _).symm.trans H; with_reducible exact H2_) | with_reducible exact H | (rw [hy529]; exact H) | exact H
                                      have Ny529 := Aside0.mk hy529
                                      clear hy529
                                      have H' := Aside0.mk H
                                      clear H
                                      obtain ⟨Ao38, co38, eo38⟩ := Kd.V_slice HO_0.out
                                      subst eo38
                                      have p518 : 0 ≤ (0 : Int) := (by omega)
                                      have q518 : 0 < (x0_2.length : Int) := of_decide_eq_true (by first | (with_reducible assumption) | assumption)
                                      obtain ⟨ad518, e518, hx518_0, hx518_1⟩ := at_T31 (Kd.V_reads' HO_0.out).2.2 0 p518 q518
                                      cases e518
                                      have qi518 : (0 < x0_2.length) = True := eq_true (by omega)
                                      (try rw [show ((0 : Int)).toNat = 0 from rfl] at hx518_0)
                                      (try rw [show 0 * 2 = 0 from rfl] at hx518_0)
                                      (try rw [Addr.add_zero'] at hx518_0)
                                      (try rw [show ((0 : Int)).toNat = 0 from rfl] at hx518_1)
                                      (try rw [show 0 * 2 = 0 from rfl] at hx518_1)
                                      (try rw [Addr.add_zero'] at hx518_1)
                                      replace p518 := eq_true p518
                                      replace q518 := eq_true q518
                                      obtain ⟨Ao39, co39, eo39⟩ := Kd.V_slice HO_1.out
                                      subst eo39
                                      have p519 : 0 ≤ (0 : Int) := (by omega)
                                      have q519 : 0 < (x1_2.length : Int) := of_decide_eq_true (by first | (with_reducible assumption) | assumption)
                                      obtain ⟨ad519, e519, hx519_0, hx519_1⟩ := at_T31 (Kd.V_reads' HO_1.out).2.2 0 p519 q519
                                      cases e519
                                      have qi519 : (0 < x1_2.length) = True := eq_true (by omega)
                                      (try rw [show ((0 : Int)).toNat = 0 from rfl] at hx519_0)
                                      (try rw [show 0 * 2 = 0 from rfl] at hx519_0)
                                      (try rw [Addr.add_zero'] at hx519_0)
                                      (try rw [show ((0 : Int)).toNat = 0 from rfl] at hx519_1)
                                      (try rw [show 0 * 2 = 0 from rfl] at hx519_1)
                                      (try rw [Addr.add_zero'] at hx519_1)
                                      replace p519 := eq_true p519
                                      replace q519 := eq_true q519
                                      have q40 : (1 : Int) ≤ ((x0_2.length : Int) : Int) := of_decide_eq_true (by first | (with_reducible assumption) | assumption)
                                      obtain ⟨i040, hi040, _, hsz40, _⟩ := info_parts info31
                                      have hroom40 : x0_2.length ≤ co38 := (Kd.V_reads' HO_0.out).2.1
                                      have hC40 : Kd.F k31 _ _ (some ad518) x0_2.length x0_2 := (Kd.V_at (base := w.heap.size) HO_0.out).2.2
                                      have hcut40 := cut_from (P := Try.prog) 22 31 .i64 Try.underlying22 hi040 2 hsz40 (some ad518) x0_2.length co38 1 (by omega) q40
                                      have hr40 := Kd.F_cut (m := (1 : Int).toNat) (c := co38) hC40 (by omega) hroom40
                                      obtain ⟨A40, hA40⟩ : ∃ A1, A1 = (if co38 = (1 : Int).toNat then (some ad518) else ((some ad518) : Option Addr).map (·.add ((1 : Int).toNat * 2))) := ⟨_, rfl⟩
                                      obtain ⟨c40, hc40⟩ : ∃ c1, c1 = co38 - (1 : Int).toNat := ⟨_, rfl⟩
                                      have hy40 : y520.length = x0_2.length - (1 : Int).toNat := (by rw [Ny520.out, List.length_drop] <;> omega)
                                      rw [show (x0_2).drop (1 : Int).toNat = y520 from Ny520.out.symm] at hr40
                                      replace hr40 : Kd.F k31 _ _ A40 y520.length y520 := (by rw [hA40]; exact hr40)
                                      rw [← hy40, ← hA40, ← hc40] at hcut40
                                      have HO524 := Aside0.mk (show Kd.V k31 31 _ w.heap.size _ (.slice A40 y520.length c40) y520 from Kd.V_mk (by rw [hy40, hc40]; exact Nat.sub_le_sub_right hroom40 _) hr40)
                                      have HC524 := Aside0.mk (show y520.length ≤ c40 from by rw [hy40, hc40]; exact Nat.sub_le_sub_right hroom40 _)
                                      clear hr40 hC40 hroom40 hi040 hsz40 hc40
                                      have KY40 := Aside0.mk hy40
                                      have KA40 := Aside0.mk hA40
                                      clear hy40 hA40
                                      replace q40 := eq_true q40
                                      have p525 : 0 ≤ (0 : Int) := (by omega)
                                      have q525 : 0 < (x1_2.length : Int) := of_decide_eq_true (by first | (with_reducible assumption) | assumption)
                                      obtain ⟨ad525, e525, hx525_0, hx525_1⟩ := at_T31 (Kd.V_reads' HO_1.out).2.2 0 p525 q525
                                      obtain rfl : ad519 = ad525 := (by injection e525)
                                      have qi525 : (0 < x1_2.length) = True := eq_true (by omega)
                                      (try rw [show ((0 : Int)).toNat = 0 from rfl] at hx525_0)
                                      (try rw [show 0 * 2 = 0 from rfl] at hx525_0)
                                      (try rw [Addr.add_zero'] at hx525_0)
                                      (try rw [show ((0 : Int)).toNat = 0 from rfl] at hx525_1)
                                      (try rw [show 0 * 2 = 0 from rfl] at hx525_1)
                                      (try rw [Addr.add_zero'] at hx525_1)
                                      replace p525 := eq_true p525
                                      replace q525 := eq_true q525
                                      go_wp2_with (first | ((with_reducible refine gate_builtin (b := .append) (xs := #[.tmp 65, .tmp 69]) rfl ?_); (try (refine gate_guard (by rfl) ?_; dsimp only)); at_builtin; refine Kd.R_append k31 (w0 := w) w.heap.size rfl (.tmp 65) (.tmp 69) 22 31 (.agg #[(.int .i64 0), (.int .u64 0)]) 16 rfl Try.underlying22 info31 rfl (by decide) (by omega) u5 x5_2 (⟨(rd_T31 x1_2 0).f0, (rd_T31 x1_2 0).f1⟩ : S31) [.int .i64 ((rd_T31 x1_2 0).f0), .int .u64 ((rd_T31 x1_2 0).f1)] (fun k_ => (w.heap.size ≤ k_)) (fun _ => False) rfl rfl ?aP (fun _ hk => hk.elim) ?aF ?aO ?aB ?aS ?aL ?_; (case aP => exact k31_mkM _ _ _ (⟨(rd_T31 x1_2 0).f0, (rd_T31 x1_2 0).f1⟩ : S31)); (case aB => exact (by repeat (first | (with_reducible first | exact HB.out | apply below_alloc | apply pw_below_drewN | apply below_drew1) | exact HB.out))); (case aF => exact (fun k_ hk => (Nat.le_trans (below_size (by repeat (first | (with_reducible first | exact HB.out | apply below_alloc | apply pw_below_drewN | apply below_drew1) | exact HB.out))) hk))); (case aO => exact (by (with_reducible repeat (first | apply Kd.R_alloc | apply Kd.R_drewN | apply Kd.R_drew)); exact HO_5.out)); (case aS => exact (below_size (by repeat (first | (with_reducible first | exact HB.out | apply below_alloc | apply pw_below_drewN | apply below_drew1) | exact HB.out)))); (case aL => have := LMc36.out; omega); intro v527 w41 ho hb hg hat; rw [← Ny526.out] at ho; have n0_ := Aside0.mk (Kd.V_afterv (ok := (fun k_ => ((P0_ k_ ∨ P1_ k_) ∨ w.heap.size ≤ k_))) (by (with_reducible repeat (first | apply Kd.V_alloc | apply Kd.V_drewN | apply Kd.V_drew)); exact HO_0.out) hg hat); have n1_ := Aside0.mk (Kd.V_afterv (ok := (fun k_ => ((P0_ k_ ∨ P1_ k_) ∨ w.heap.size ≤ k_))) (by (with_reducible repeat (first | apply Kd.V_alloc | apply Kd.V_drewN | apply Kd.V_drew)); exact HO_1.out) hg hat); have n2_ := Aside0.mk (Kd.V_afterv (ok := (fun k_ => ((P0_ k_ ∨ P1_ k_) ∨ w.heap.size ≤ k_))) (by (with_reducible repeat (first | apply Kd.V_alloc | apply Kd.V_drewN | apply Kd.V_drew)); exact HO524.out) hg hat); have n3_ := Aside0.mk (hb); have n4_ := Aside0.mk (ho); clear HO_0; clear HO_1; clear HO524; clear HB; clear HO_5; have HO_0 := n0_; have HO_1 := n1_; have HO524 := n2_; have HB := n3_; have HO528 := n4_; clear n0_ n1_ n2_ n3_ n4_; clear ho hb hg hat; have q42 : (1 : Int) ≤ ((x1_2.length : Int) : Int) := of_decide_eq_true (by first | (with_reducible assumption) | assumption); obtain ⟨i042, hi042, _, hsz42, _⟩ := info_parts info31; have hroom42 : x1_2.length ≤ co39 := (Kd.V_reads' HO_1.out).2.1; have hC42 : Kd.F k31 _ _ (some ad519) x1_2.length x1_2 := (Kd.V_at (base := w.heap.size) HO_1.out).2.2; have hcut42 := cut_from (P := Try.prog) 22 31 .i64 Try.underlying22 hi042 2 hsz42 (some ad519) x1_2.length co39 1 (by omega) q42; have hr42 := Kd.F_cut (m := (1 : Int).toNat) (c := co39) hC42 (by omega) hroom42; obtain ⟨A42, hA42⟩ : ∃ A1, A1 = (if co39 = (1 : Int).toNat then (some ad519) else ((some ad519) : Option Addr).map (·.add ((1 : Int).toNat * 2))) := ⟨_, rfl⟩; obtain ⟨c42, hc42⟩ : ∃ c1, c1 = co39 - (1 : Int).toNat := ⟨_, rfl⟩; have hy42 : y529.length = x1_2.length - (1 : Int).toNat := (by rw [Ny529.out, List.length_drop] <;> omega); rw [show (x1_2).drop (1 : Int).toNat = y529 from Ny529.out.symm] at hr42; replace hr42 : Kd.F k31 _ _ A42 y529.length y529 := (by rw [hA42]; exact hr42); rw [← hy42, ← hA42, ← hc42] at hcut42; have HO533 := Aside0.mk (show Kd.V k31 31 _ w.heap.size _ (.slice A42 y529.length c42) y529 from Kd.V_mk (by rw [hy42, hc42]; exact Nat.sub_le_sub_right hroom42 _) hr42); have HC533 := Aside0.mk (show y529.length ≤ c42 from by rw [hy42, hc42]; exact Nat.sub_le_sub_right hroom42 _); clear hr42 hC42 hroom42 hi042 hsz42 hc42; have KY42 := Aside0.mk hy42; have KA42 := Aside0.mk hA42; clear hy42 hA42; replace q42 := eq_true q42))
                                      repeat (go_quiet (first | ((with_reducible refine gate_builtin (b := .append) (xs := #[.tmp 65, .tmp 69]) rfl ?_); (try (refine gate_guard (by rfl) ?_; dsimp only)); at_builtin; refine Kd.R_append k31 (w0 := w) w.heap.size rfl (.tmp 65) (.tmp 69) 22 31 (.agg #[(.int .i64 0), (.int .u64 0)]) 16 rfl Try.underlying22 info31 rfl (by decide) (by omega) u5 x5_2 (⟨(rd_T31 x1_2 0).f0, (rd_T31 x1_2 0).f1⟩ : S31) [.int .i64 ((rd_T31 x1_2 0).f0), .int .u64 ((rd_T31 x1_2 0).f1)] (fun k_ => (w.heap.size ≤ k_)) (fun _ => False) rfl rfl ?aP (fun _ hk => hk.elim) ?aF ?aO ?aB ?aS ?aL ?_; (case aP => exact k31_mkM _ _ _ (⟨(rd_T31 x1_2 0).f0, (rd_T31 x1_2 0).f1⟩ : S31)); (case aB => exact (by repeat (first | (with_reducible first | exact HB.out | apply below_alloc | apply pw_below_drewN | apply below_drew1) | exact HB.out))); (case aF => exact (fun k_ hk => (Nat.le_trans (below_size (by repeat (first | (with_reducible first | exact HB.out | apply below_alloc | apply pw_below_drewN | apply below_drew1) | exact HB.out))) hk))); (case aO => exact (by (with_reducible repeat (first | apply Kd.R_alloc | apply Kd.R_drewN | apply Kd.R_drew)); exact HO_5.out)); (case aS => exact (below_size (by repeat (first | (with_reducible first | exact HB.out | apply below_alloc | apply pw_below_drewN | apply below_drew1) | exact HB.out)))); (case aL => have := LMc36.out; omega); intro v527 w41 ho hb hg hat; rw [← Ny526.out] at ho; have n0_ := Aside0.mk (Kd.V_afterv (ok := (fun k_ => ((P0_ k_ ∨ P1_ k_) ∨ w.heap.size ≤ k_))) (by (with_reducible repeat (first | apply Kd.V_alloc | apply Kd.V_drewN | apply Kd.V_drew)); exact HO_0.out) hg hat); have n1_ := Aside0.mk (Kd.V_afterv (ok := (fun k_ => ((P0_ k_ ∨ P1_ k_) ∨ w.heap.size ≤ k_))) (by (with_reducible repeat (first | apply Kd.V_alloc | apply Kd.V_drewN | apply Kd.V_drew)); exact HO_1.out) hg hat); have n2_ := Aside0.mk (Kd.V_afterv (ok := (fun k_ => ((P0_ k_ ∨ P1_ k_) ∨ w.heap.size ≤ k_))) (by (with_reducible repeat (first | apply Kd.V_alloc | apply Kd.V_drewN | apply Kd.V_drew)); exact HO524.out) hg hat); have n3_ := Aside0.mk (hb); have n4_ := Aside0.mk (ho); clear HO_0; clear HO_1; clear HO524; clear HB; clear HO_5; have HO_0 := n0_; have HO_1 := n1_; have HO524 := n2_; have HB := n3_; have HO528 := n4_; clear n0_ n1_ n2_ n3_ n4_; clear ho hb hg hat; have q42 : (1 : Int) ≤ ((x1_2.length : Int) : Int) := of_decide_eq_true (by first | (with_reducible assumption) | assumption); obtain ⟨i042, hi042, _, hsz42, _⟩ := info_parts info31; have hroom42 : x1_2.length ≤ co39 := (Kd.V_reads' HO_1.out).2.1; have hC42 : Kd.F k31 _ _ (some ad519) x1_2.length x1_2 := (Kd.V_at (base := w.heap.size) HO_1.out).2.2; have hcut42 := cut_from (P := Try.prog) 22 31 .i64 Try.underlying22 hi042 2 hsz42 (some ad519) x1_2.length co39 1 (by omega) q42; have hr42 := Kd.F_cut (m := (1 : Int).toNat) (c := co39) hC42 (by omega) hroom42; obtain ⟨A42, hA42⟩ : ∃ A1, A1 = (if co39 = (1 : Int).toNat then (some ad519) else ((some ad519) : Option Addr).map (·.add ((1 : Int).toNat * 2))) := ⟨_, rfl⟩; obtain ⟨c42, hc42⟩ : ∃ c1, c1 = co39 - (1 : Int).toNat := ⟨_, rfl⟩; have hy42 : y529.length = x1_2.length - (1 : Int).toNat := (by rw [Ny529.out, List.length_drop] <;> omega); rw [show (x1_2).drop (1 : Int).toNat = y529 from Ny529.out.symm] at hr42; replace hr42 : Kd.F k31 _ _ A42 y529.length y529 := (by rw [hA42]; exact hr42); rw [← hy42, ← hA42, ← hc42] at hcut42; have HO533 := Aside0.mk (show Kd.V k31 31 _ w.heap.size _ (.slice A42 y529.length c42) y529 from Kd.V_mk (by rw [hy42, hc42]; exact Nat.sub_le_sub_right hroom42 _) hr42); have HC533 := Aside0.mk (show y529.length ≤ c42 from by rw [hy42, hc42]; exact Nat.sub_le_sub_right hroom42 _); clear hr42 hC42 hroom42 hi042 hsz42 hc42; have KY42 := Aside0.mk hy42; have KA42 := Aside0.mk hA42; clear hy42 hA42; replace q42 := eq_true q42)); try go_wp2_with (first | ((with_reducible refine gate_builtin (b := .append) (xs := #[.tmp 65, .tmp 69]) rfl ?_); (try (refine gate_guard (by rfl) ?_; dsimp only)); at_builtin; refine Kd.R_append k31 (w0 := w) w.heap.size rfl (.tmp 65) (.tmp 69) 22 31 (.agg #[(.int .i64 0), (.int .u64 0)]) 16 rfl Try.underlying22 info31 rfl (by decide) (by omega) u5 x5_2 (⟨(rd_T31 x1_2 0).f0, (rd_T31 x1_2 0).f1⟩ : S31) [.int .i64 ((rd_T31 x1_2 0).f0), .int .u64 ((rd_T31 x1_2 0).f1)] (fun k_ => (w.heap.size ≤ k_)) (fun _ => False) rfl rfl ?aP (fun _ hk => hk.elim) ?aF ?aO ?aB ?aS ?aL ?_; (case aP => exact k31_mkM _ _ _ (⟨(rd_T31 x1_2 0).f0, (rd_T31 x1_2 0).f1⟩ : S31)); (case aB => exact (by repeat (first | (with_reducible first | exact HB.out | apply below_alloc | apply pw_below_drewN | apply below_drew1) | exact HB.out))); (case aF => exact (fun k_ hk => (Nat.le_trans (below_size (by repeat (first | (with_reducible first | exact HB.out | apply below_alloc | apply pw_below_drewN | apply below_drew1) | exact HB.out))) hk))); (case aO => exact (by (with_reducible repeat (first | apply Kd.R_alloc | apply Kd.R_drewN | apply Kd.R_drew)); exact HO_5.out)); (case aS => exact (below_size (by repeat (first | (with_reducible first | exact HB.out | apply below_alloc | apply pw_below_drewN | apply below_drew1) | exact HB.out)))); (case aL => have := LMc36.out; omega); intro v527 w41 ho hb hg hat; rw [← Ny526.out] at ho; have n0_ := Aside0.mk (Kd.V_afterv (ok := (fun k_ => ((P0_ k_ ∨ P1_ k_) ∨ w.heap.size ≤ k_))) (by (with_reducible repeat (first | apply Kd.V_alloc | apply Kd.V_drewN | apply Kd.V_drew)); exact HO_0.out) hg hat); have n1_ := Aside0.mk (Kd.V_afterv (ok := (fun k_ => ((P0_ k_ ∨ P1_ k_) ∨ w.heap.size ≤ k_))) (by (with_reducible repeat (first | apply Kd.V_alloc | apply Kd.V_drewN | apply Kd.V_drew)); exact HO_1.out) hg hat); have n2_ := Aside0.mk (Kd.V_afterv (ok := (fun k_ => ((P0_ k_ ∨ P1_ k_) ∨ w.heap.size ≤ k_))) (by (with_reducible repeat (first | apply Kd.V_alloc | apply Kd.V_drewN | apply Kd.V_drew)); exact HO524.out) hg hat); have n3_ := Aside0.mk (hb); have n4_ := Aside0.mk (ho); clear HO_0; clear HO_1; clear HO524; clear HB; clear HO_5; have HO_0 := n0_; have HO_1 := n1_; have HO524 := n2_; have HB := n3_; have HO528 := n4_; clear n0_ n1_ n2_ n3_ n4_; clear ho hb hg hat; have q42 : (1 : Int) ≤ ((x1_2.length : Int) : Int) := of_decide_eq_true (by first | (with_reducible assumption) | assumption); obtain ⟨i042, hi042, _, hsz42, _⟩ := info_parts info31; have hroom42 : x1_2.length ≤ co39 := (Kd.V_reads' HO_1.out).2.1; have hC42 : Kd.F k31 _ _ (some ad519) x1_2.length x1_2 := (Kd.V_at (base := w.heap.size) HO_1.out).2.2; have hcut42 := cut_from (P := Try.prog) 22 31 .i64 Try.underlying22 hi042 2 hsz42 (some ad519) x1_2.length co39 1 (by omega) q42; have hr42 := Kd.F_cut (m := (1 : Int).toNat) (c := co39) hC42 (by omega) hroom42; obtain ⟨A42, hA42⟩ : ∃ A1, A1 = (if co39 = (1 : Int).toNat then (some ad519) else ((some ad519) : Option Addr).map (·.add ((1 : Int).toNat * 2))) := ⟨_, rfl⟩; obtain ⟨c42, hc42⟩ : ∃ c1, c1 = co39 - (1 : Int).toNat := ⟨_, rfl⟩; have hy42 : y529.length = x1_2.length - (1 : Int).toNat := (by rw [Ny529.out, List.length_drop] <;> omega); rw [show (x1_2).drop (1 : Int).toNat = y529 from Ny529.out.symm] at hr42; replace hr42 : Kd.F k31 _ _ A42 y529.length y529 := (by rw [hA42]; exact hr42); rw [← hy42, ← hA42, ← hc42] at hcut42; have HO533 := Aside0.mk (show Kd.V k31 31 _ w.heap.size _ (.slice A42 y529.length c42) y529 from Kd.V_mk (by rw [hy42, hc42]; exact Nat.sub_le_sub_right hroom42 _) hr42); have HC533 := Aside0.mk (show y529.length ≤ c42 from by rw [hy42, hc42]; exact Nat.sub_le_sub_right hroom42 _); clear hr42 hC42 hroom42 hi042 hsz42 hc42; have KY42 := Aside0.mk hy42; have KA42 := Aside0.mk hA42; clear hy42 hA42; replace q42 := eq_true q42)))
                                      go_roundg kj13
                                      case measure => have := HJ2.out; have := HK2.out; have := HJ7.out; have := HJ13.out; omega
                                      case rel => exact ⟨(y520), (y529), (y526), H', ⟨by have := HJ2.out; have := HK2.out; have := HJ7.out; have := HJ13.out; omega⟩, ⟨by (with_reducible repeat (first | apply Kd.V_alloc | apply Kd.V_drewN | apply Kd.V_drew)); exact HO524.out⟩, ⟨by (with_reducible repeat (first | apply Kd.V_alloc | apply Kd.V_drewN | apply Kd.V_drew)); exact HO533.out⟩, ⟨by (with_reducible repeat (first | apply Kd.R_alloc | apply Kd.R_drewN | apply Kd.R_drew)); exact HO528.out⟩, ⟨by repeat (first | (with_reducible first | exact HB.out | apply below_alloc | apply pw_below_drewN | apply below_drew1) | exact HB.out)⟩⟩
                                    · rw [if_neg c37] at H
                                      exact absurd H (by simp)
                                  · rw [if_neg c36] at H
                                    exact absurd H (by simp)
                                · rw [if_neg c35] at H
                                  exact absurd H (by simp)
                              · rw [if_neg c34] at H
                                have c34b0 : (((rd_T31 x0_2 0).f0) == ((rd_T31 x1_2 0).f0)) = false := beq_eq_false_iff_ne.mpr c34
                                have c34b1 : (((rd_T31 x0_2 0).f0) != ((rd_T31 x1_2 0).f0)) = true := bne_iff_ne.mpr c34
                                by_cases c43 : x5_2.length < 8796093022208
                                · rw [if_pos c43] at H
                                  have LMc43 := Aside0.mk c43
                                  clear c43
                                  obtain ⟨y535, hy535⟩ : ∃ y_ : List (S31), y_ = (x5_2 ++ [(⟨(rd_T31 x1_2 0).f0, (rd_T31 x1_2 0).f1⟩ : S31)]) := ⟨_, rfl⟩
                                  replace H : (if 1 ≤ (x1_2.length : Int) then (escritoireref23_Join.l0 kj13 x0_2 (x1_2.drop 1) y535) else (none)) = some r := by first | (rw [hy535]; with_reducible exact H) | (have H2_ := (Option.bind_some _ _).symm.trans H; rw [hy535]; with_reducible exact H2_) | (have H2_ := (Option.bind_some _ _).symm.trans H; with_reducible exact H2_) | with_reducible exact H | (rw [hy535]; exact H) | exact H
                                  have Ny535 := Aside0.mk hy535
                                  clear hy535
                                  by_cases c44 : 1 ≤ (x1_2.length : Int)
                                  · rw [if_pos c44] at H
                                    have c44b0 := eq_true c44
                                    have c44b1 : decide (1 ≤ (x1_2.length : Int)) = true := decide_eq_true c44
                                    clear c44
                                    obtain ⟨y538, hy538⟩ : ∃ y_ : List (S31), y_ = (x1_2.drop 1) := ⟨_, rfl⟩
                                    replace H : (escritoireref23_Join.l0 kj13 x0_2 y538 y535) = some r := by first | (rw [hy538]; with_reducible exact H) | (have H2_ := (Option.bind_some _ _).symm.trans H; rw [hy538]; with_reducible exact H2_) | (have H2_ := (Option.bind_some _ _).symm.trans H; with_reducible exact H2_) | with_reducible exact H | (rw [hy538]; exact H) | exact H
                                    have Ny538 := Aside0.mk hy538
                                    clear hy538
                                    have H' := Aside0.mk H
                                    clear H
                                    obtain ⟨Ao45, co45, eo45⟩ := Kd.V_slice HO_0.out
                                    subst eo45
                                    have p518 : 0 ≤ (0 : Int) := (by omega)
                                    have q518 : 0 < (x0_2.length : Int) := of_decide_eq_true (by first | (with_reducible assumption) | assumption)
                                    obtain ⟨ad518, e518, hx518_0, hx518_1⟩ := at_T31 (Kd.V_reads' HO_0.out).2.2 0 p518 q518
                                    cases e518
                                    have qi518 : (0 < x0_2.length) = True := eq_true (by omega)
                                    (try rw [show ((0 : Int)).toNat = 0 from rfl] at hx518_0)
                                    (try rw [show 0 * 2 = 0 from rfl] at hx518_0)
                                    (try rw [Addr.add_zero'] at hx518_0)
                                    (try rw [show ((0 : Int)).toNat = 0 from rfl] at hx518_1)
                                    (try rw [show 0 * 2 = 0 from rfl] at hx518_1)
                                    (try rw [Addr.add_zero'] at hx518_1)
                                    replace p518 := eq_true p518
                                    replace q518 := eq_true q518
                                    obtain ⟨Ao46, co46, eo46⟩ := Kd.V_slice HO_1.out
                                    subst eo46
                                    have p519 : 0 ≤ (0 : Int) := (by omega)
                                    have q519 : 0 < (x1_2.length : Int) := of_decide_eq_true (by first | (with_reducible assumption) | assumption)
                                    obtain ⟨ad519, e519, hx519_0, hx519_1⟩ := at_T31 (Kd.V_reads' HO_1.out).2.2 0 p519 q519
                                    cases e519
                                    have qi519 : (0 < x1_2.length) = True := eq_true (by omega)
                                    (try rw [show ((0 : Int)).toNat = 0 from rfl] at hx519_0)
                                    (try rw [show 0 * 2 = 0 from rfl] at hx519_0)
                                    (try rw [Addr.add_zero'] at hx519_0)
                                    (try rw [show ((0 : Int)).toNat = 0 from rfl] at hx519_1)
                                    (try rw [show 0 * 2 = 0 from rfl] at hx519_1)
                                    (try rw [Addr.add_zero'] at hx519_1)
                                    replace p519 := eq_true p519
                                    replace q519 := eq_true q519
                                    have p534 : 0 ≤ (0 : Int) := (by omega)
                                    have q534 : 0 < (x1_2.length : Int) := of_decide_eq_true (by first | (with_reducible assumption) | assumption)
                                    obtain ⟨ad534, e534, hx534_0, hx534_1⟩ := at_T31 (Kd.V_reads' HO_1.out).2.2 0 p534 q534
                                    obtain rfl : ad519 = ad534 := (by injection e534)
                                    have qi534 : (0 < x1_2.length) = True := eq_true (by omega)
                                    (try rw [show ((0 : Int)).toNat = 0 from rfl] at hx534_0)
                                    (try rw [show 0 * 2 = 0 from rfl] at hx534_0)
                                    (try rw [Addr.add_zero'] at hx534_0)
                                    (try rw [show ((0 : Int)).toNat = 0 from rfl] at hx534_1)
                                    (try rw [show 0 * 2 = 0 from rfl] at hx534_1)
                                    (try rw [Addr.add_zero'] at hx534_1)
                                    replace p534 := eq_true p534
                                    replace q534 := eq_true q534
                                    go_wp2_with (first | ((with_reducible refine gate_builtin (b := .append) (xs := #[.tmp 65, .tmp 69]) rfl ?_); (try (refine gate_guard (by rfl) ?_; dsimp only)); at_builtin; refine Kd.R_append k31 (w0 := w) w.heap.size rfl (.tmp 65) (.tmp 69) 22 31 (.agg #[(.int .i64 0), (.int .u64 0)]) 16 rfl Try.underlying22 info31 rfl (by decide) (by omega) u5 x5_2 (⟨(rd_T31 x1_2 0).f0, (rd_T31 x1_2 0).f1⟩ : S31) [.int .i64 ((rd_T31 x1_2 0).f0), .int .u64 ((rd_T31 x1_2 0).f1)] (fun k_ => (w.heap.size ≤ k_)) (fun _ => False) rfl rfl ?aP (fun _ hk => hk.elim) ?aF ?aO ?aB ?aS ?aL ?_; (case aP => exact k31_mkM _ _ _ (⟨(rd_T31 x1_2 0).f0, (rd_T31 x1_2 0).f1⟩ : S31)); (case aB => exact (by repeat (first | (with_reducible first | exact HB.out | apply below_alloc | apply pw_below_drewN | apply below_drew1) | exact HB.out))); (case aF => exact (fun k_ hk => (Nat.le_trans (below_size (by repeat (first | (with_reducible first | exact HB.out | apply below_alloc | apply pw_below_drewN | apply below_drew1) | exact HB.out))) hk))); (case aO => exact (by (with_reducible repeat (first | apply Kd.R_alloc | apply Kd.R_drewN | apply Kd.R_drew)); exact HO_5.out)); (case aS => exact (below_size (by repeat (first | (with_reducible first | exact HB.out | apply below_alloc | apply pw_below_drewN | apply below_drew1) | exact HB.out)))); (case aL => have := LMc43.out; omega); intro v536 w47 ho hb hg hat; rw [← Ny535.out] at ho; have n0_ := Aside0.mk (Kd.V_afterv (ok := (fun k_ => ((P0_ k_ ∨ P1_ k_) ∨ w.heap.size ≤ k_))) (by (with_reducible repeat (first | apply Kd.V_alloc | apply Kd.V_drewN | apply Kd.V_drew)); exact HO_0.out) hg hat); have n1_ := Aside0.mk (Kd.V_afterv (ok := (fun k_ => ((P0_ k_ ∨ P1_ k_) ∨ w.heap.size ≤ k_))) (by (with_reducible repeat (first | apply Kd.V_alloc | apply Kd.V_drewN | apply Kd.V_drew)); exact HO_1.out) hg hat); have n2_ := Aside0.mk (hb); have n3_ := Aside0.mk (ho); clear HO_0; clear HO_1; clear HB; clear HO_5; have HO_0 := n0_; have HO_1 := n1_; have HB := n2_; have HO537 := n3_; clear n0_ n1_ n2_ n3_; clear ho hb hg hat; have q48 : (1 : Int) ≤ ((x1_2.length : Int) : Int) := of_decide_eq_true (by first | (with_reducible assumption) | assumption); obtain ⟨i048, hi048, _, hsz48, _⟩ := info_parts info31; have hroom48 : x1_2.length ≤ co46 := (Kd.V_reads' HO_1.out).2.1; have hC48 : Kd.F k31 _ _ (some ad519) x1_2.length x1_2 := (Kd.V_at (base := w.heap.size) HO_1.out).2.2; have hcut48 := cut_from (P := Try.prog) 22 31 .i64 Try.underlying22 hi048 2 hsz48 (some ad519) x1_2.length co46 1 (by omega) q48; have hr48 := Kd.F_cut (m := (1 : Int).toNat) (c := co46) hC48 (by omega) hroom48; obtain ⟨A48, hA48⟩ : ∃ A1, A1 = (if co46 = (1 : Int).toNat then (some ad519) else ((some ad519) : Option Addr).map (·.add ((1 : Int).toNat * 2))) := ⟨_, rfl⟩; obtain ⟨c48, hc48⟩ : ∃ c1, c1 = co46 - (1 : Int).toNat := ⟨_, rfl⟩; have hy48 : y538.length = x1_2.length - (1 : Int).toNat := (by rw [Ny538.out, List.length_drop] <;> omega); rw [show (x1_2).drop (1 : Int).toNat = y538 from Ny538.out.symm] at hr48; replace hr48 : Kd.F k31 _ _ A48 y538.length y538 := (by rw [hA48]; exact hr48); rw [← hy48, ← hA48, ← hc48] at hcut48; have HO542 := Aside0.mk (show Kd.V k31 31 _ w.heap.size _ (.slice A48 y538.length c48) y538 from Kd.V_mk (by rw [hy48, hc48]; exact Nat.sub_le_sub_right hroom48 _) hr48); have HC542 := Aside0.mk (show y538.length ≤ c48 from by rw [hy48, hc48]; exact Nat.sub_le_sub_right hroom48 _); clear hr48 hC48 hroom48 hi048 hsz48 hc48; have KY48 := Aside0.mk hy48; have KA48 := Aside0.mk hA48; clear hy48 hA48; replace q48 := eq_true q48))
                                    repeat (go_quiet (first | ((with_reducible refine gate_builtin (b := .append) (xs := #[.tmp 65, .tmp 69]) rfl ?_); (try (refine gate_guard (by rfl) ?_; dsimp only)); at_builtin; refine Kd.R_append k31 (w0 := w) w.heap.size rfl (.tmp 65) (.tmp 69) 22 31 (.agg #[(.int .i64 0), (.int .u64 0)]) 16 rfl Try.underlying22 info31 rfl (by decide) (by omega) u5 x5_2 (⟨(rd_T31 x1_2 0).f0, (rd_T31 x1_2 0).f1⟩ : S31) [.int .i64 ((rd_T31 x1_2 0).f0), .int .u64 ((rd_T31 x1_2 0).f1)] (fun k_ => (w.heap.size ≤ k_)) (fun _ => False) rfl rfl ?aP (fun _ hk => hk.elim) ?aF ?aO ?aB ?aS ?aL ?_; (case aP => exact k31_mkM _ _ _ (⟨(rd_T31 x1_2 0).f0, (rd_T31 x1_2 0).f1⟩ : S31)); (case aB => exact (by repeat (first | (with_reducible first | exact HB.out | apply below_alloc | apply pw_below_drewN | apply below_drew1) | exact HB.out))); (case aF => exact (fun k_ hk => (Nat.le_trans (below_size (by repeat (first | (with_reducible first | exact HB.out | apply below_alloc | apply pw_below_drewN | apply below_drew1) | exact HB.out))) hk))); (case aO => exact (by (with_reducible repeat (first | apply Kd.R_alloc | apply Kd.R_drewN | apply Kd.R_drew)); exact HO_5.out)); (case aS => exact (below_size (by repeat (first | (with_reducible first | exact HB.out | apply below_alloc | apply pw_below_drewN | apply below_drew1) | exact HB.out)))); (case aL => have := LMc43.out; omega); intro v536 w47 ho hb hg hat; rw [← Ny535.out] at ho; have n0_ := Aside0.mk (Kd.V_afterv (ok := (fun k_ => ((P0_ k_ ∨ P1_ k_) ∨ w.heap.size ≤ k_))) (by (with_reducible repeat (first | apply Kd.V_alloc | apply Kd.V_drewN | apply Kd.V_drew)); exact HO_0.out) hg hat); have n1_ := Aside0.mk (Kd.V_afterv (ok := (fun k_ => ((P0_ k_ ∨ P1_ k_) ∨ w.heap.size ≤ k_))) (by (with_reducible repeat (first | apply Kd.V_alloc | apply Kd.V_drewN | apply Kd.V_drew)); exact HO_1.out) hg hat); have n2_ := Aside0.mk (hb); have n3_ := Aside0.mk (ho); clear HO_0; clear HO_1; clear HB; clear HO_5; have HO_0 := n0_; have HO_1 := n1_; have HB := n2_; have HO537 := n3_; clear n0_ n1_ n2_ n3_; clear ho hb hg hat; have q48 : (1 : Int) ≤ ((x1_2.length : Int) : Int) := of_decide_eq_true (by first | (with_reducible assumption) | assumption); obtain ⟨i048, hi048, _, hsz48, _⟩ := info_parts info31; have hroom48 : x1_2.length ≤ co46 := (Kd.V_reads' HO_1.out).2.1; have hC48 : Kd.F k31 _ _ (some ad519) x1_2.length x1_2 := (Kd.V_at (base := w.heap.size) HO_1.out).2.2; have hcut48 := cut_from (P := Try.prog) 22 31 .i64 Try.underlying22 hi048 2 hsz48 (some ad519) x1_2.length co46 1 (by omega) q48; have hr48 := Kd.F_cut (m := (1 : Int).toNat) (c := co46) hC48 (by omega) hroom48; obtain ⟨A48, hA48⟩ : ∃ A1, A1 = (if co46 = (1 : Int).toNat then (some ad519) else ((some ad519) : Option Addr).map (·.add ((1 : Int).toNat * 2))) := ⟨_, rfl⟩; obtain ⟨c48, hc48⟩ : ∃ c1, c1 = co46 - (1 : Int).toNat := ⟨_, rfl⟩; have hy48 : y538.length = x1_2.length - (1 : Int).toNat := (by rw [Ny538.out, List.length_drop] <;> omega); rw [show (x1_2).drop (1 : Int).toNat = y538 from Ny538.out.symm] at hr48; replace hr48 : Kd.F k31 _ _ A48 y538.length y538 := (by rw [hA48]; exact hr48); rw [← hy48, ← hA48, ← hc48] at hcut48; have HO542 := Aside0.mk (show Kd.V k31 31 _ w.heap.size _ (.slice A48 y538.length c48) y538 from Kd.V_mk (by rw [hy48, hc48]; exact Nat.sub_le_sub_right hroom48 _) hr48); have HC542 := Aside0.mk (show y538.length ≤ c48 from by rw [hy48, hc48]; exact Nat.sub_le_sub_right hroom48 _); clear hr48 hC48 hroom48 hi048 hsz48 hc48; have KY48 := Aside0.mk hy48; have KA48 := Aside0.mk hA48; clear hy48 hA48; replace q48 := eq_true q48)); try go_wp2_with (first | ((with_reducible refine gate_builtin (b := .append) (xs := #[.tmp 65, .tmp 69]) rfl ?_); (try (refine gate_guard (by rfl) ?_; dsimp only)); at_builtin; refine Kd.R_append k31 (w0 := w) w.heap.size rfl (.tmp 65) (.tmp 69) 22 31 (.agg #[(.int .i64 0), (.int .u64 0)]) 16 rfl Try.underlying22 info31 rfl (by decide) (by omega) u5 x5_2 (⟨(rd_T31 x1_2 0).f0, (rd_T31 x1_2 0).f1⟩ : S31) [.int .i64 ((rd_T31 x1_2 0).f0), .int .u64 ((rd_T31 x1_2 0).f1)] (fun k_ => (w.heap.size ≤ k_)) (fun _ => False) rfl rfl ?aP (fun _ hk => hk.elim) ?aF ?aO ?aB ?aS ?aL ?_; (case aP => exact k31_mkM _ _ _ (⟨(rd_T31 x1_2 0).f0, (rd_T31 x1_2 0).f1⟩ : S31)); (case aB => exact (by repeat (first | (with_reducible first | exact HB.out | apply below_alloc | apply pw_below_drewN | apply below_drew1) | exact HB.out))); (case aF => exact (fun k_ hk => (Nat.le_trans (below_size (by repeat (first | (with_reducible first | exact HB.out | apply below_alloc | apply pw_below_drewN | apply below_drew1) | exact HB.out))) hk))); (case aO => exact (by (with_reducible repeat (first | apply Kd.R_alloc | apply Kd.R_drewN | apply Kd.R_drew)); exact HO_5.out)); (case aS => exact (below_size (by repeat (first | (with_reducible first | exact HB.out | apply below_alloc | apply pw_below_drewN | apply below_drew1) | exact HB.out)))); (case aL => have := LMc43.out; omega); intro v536 w47 ho hb hg hat; rw [← Ny535.out] at ho; have n0_ := Aside0.mk (Kd.V_afterv (ok := (fun k_ => ((P0_ k_ ∨ P1_ k_) ∨ w.heap.size ≤ k_))) (by (with_reducible repeat (first | apply Kd.V_alloc | apply Kd.V_drewN | apply Kd.V_drew)); exact HO_0.out) hg hat); have n1_ := Aside0.mk (Kd.V_afterv (ok := (fun k_ => ((P0_ k_ ∨ P1_ k_) ∨ w.heap.size ≤ k_))) (by (with_reducible repeat (first | apply Kd.V_alloc | apply Kd.V_drewN | apply Kd.V_drew)); exact HO_1.out) hg hat); have n2_ := Aside0.mk (hb); have n3_ := Aside0.mk (ho); clear HO_0; clear HO_1; clear HB; clear HO_5; have HO_0 := n0_; have HO_1 := n1_; have HB := n2_; have HO537 := n3_; clear n0_ n1_ n2_ n3_; clear ho hb hg hat; have q48 : (1 : Int) ≤ ((x1_2.length : Int) : Int) := of_decide_eq_true (by first | (with_reducible assumption) | assumption); obtain ⟨i048, hi048, _, hsz48, _⟩ := info_parts info31; have hroom48 : x1_2.length ≤ co46 := (Kd.V_reads' HO_1.out).2.1; have hC48 : Kd.F k31 _ _ (some ad519) x1_2.length x1_2 := (Kd.V_at (base := w.heap.size) HO_1.out).2.2; have hcut48 := cut_from (P := Try.prog) 22 31 .i64 Try.underlying22 hi048 2 hsz48 (some ad519) x1_2.length co46 1 (by omega) q48; have hr48 := Kd.F_cut (m := (1 : Int).toNat) (c := co46) hC48 (by omega) hroom48; obtain ⟨A48, hA48⟩ : ∃ A1, A1 = (if co46 = (1 : Int).toNat then (some ad519) else ((some ad519) : Option Addr).map (·.add ((1 : Int).toNat * 2))) := ⟨_, rfl⟩; obtain ⟨c48, hc48⟩ : ∃ c1, c1 = co46 - (1 : Int).toNat := ⟨_, rfl⟩; have hy48 : y538.length = x1_2.length - (1 : Int).toNat := (by rw [Ny538.out, List.length_drop] <;> omega); rw [show (x1_2).drop (1 : Int).toNat = y538 from Ny538.out.symm] at hr48; replace hr48 : Kd.F k31 _ _ A48 y538.length y538 := (by rw [hA48]; exact hr48); rw [← hy48, ← hA48, ← hc48] at hcut48; have HO542 := Aside0.mk (show Kd.V k31 31 _ w.heap.size _ (.slice A48 y538.length c48) y538 from Kd.V_mk (by rw [hy48, hc48]; exact Nat.sub_le_sub_right hroom48 _) hr48); have HC542 := Aside0.mk (show y538.length ≤ c48 from by rw [hy48, hc48]; exact Nat.sub_le_sub_right hroom48 _); clear hr48 hC48 hroom48 hi048 hsz48 hc48; have KY48 := Aside0.mk hy48; have KA48 := Aside0.mk hA48; clear hy48 hA48; replace q48 := eq_true q48)))
                                    go_roundg kj13
                                    case measure => have := HJ2.out; have := HK2.out; have := HJ7.out; have := HJ13.out; omega
                                    case rel => exact ⟨(x0_2), (y538), (y535), H', ⟨by have := HJ2.out; have := HK2.out; have := HJ7.out; have := HJ13.out; omega⟩, ⟨by (with_reducible repeat (first | apply Kd.V_alloc | apply Kd.V_drewN | apply Kd.V_drew)); exact HO_0.out⟩, ⟨by (with_reducible repeat (first | apply Kd.V_alloc | apply Kd.V_drewN | apply Kd.V_drew)); exact HO542.out⟩, ⟨by (with_reducible repeat (first | apply Kd.R_alloc | apply Kd.R_drewN | apply Kd.R_drew)); exact HO537.out⟩, ⟨by repeat (first | (with_reducible first | exact HB.out | apply below_alloc | apply pw_below_drewN | apply below_drew1) | exact HB.out)⟩⟩
                                  · rw [if_neg c44] at H
                                    exact absurd H (by simp)
                                · rw [if_neg c43] at H
                                  exact absurd H (by simp)
                            · rw [if_neg c33] at H
                              exact absurd H (by simp)
                          · rw [if_neg c32] at H
                            exact absurd H (by simp)
                        · rw [if_neg c31] at H
                          have c31b0 : decide (0 < (x0_2.length : Int)) = false := decide_eq_false c31
                          have c31b1 : decide (0 < x0_2.length) = false := decide_eq_false (by omega)
                          clear c31
                          by_cases c49 : 0 < (x1_2.length : Int)
                          · rw [if_pos c49] at H
                            have c49b0 : decide (0 < (x1_2.length : Int)) = true := decide_eq_true c49
                            have c49b1 : decide (0 < x1_2.length) = true := decide_eq_true (by omega)
                            clear c49
                            by_cases c50 : x5_2.length < 8796093022208
                            · rw [if_pos c50] at H
                              have LMc50 := Aside0.mk c50
                              clear c50
                              obtain ⟨y544, hy544⟩ : ∃ y_ : List (S31), y_ = (x5_2 ++ [(⟨(rd_T31 x1_2 0).f0, (rd_T31 x1_2 0).f1⟩ : S31)]) := ⟨_, rfl⟩
                              replace H : (if 1 ≤ (x1_2.length : Int) then (escritoireref23_Join.l0 kj13 x0_2 (x1_2.drop 1) y544) else (none)) = some r := by first | (rw [hy544]; with_reducible exact H) | (have H2_ := (Option.bind_some _ _).symm.trans H; rw [hy544]; with_reducible exact H2_) | (have H2_ := (Option.bind_some _ _).symm.trans H; with_reducible exact H2_) | with_reducible exact H | (rw [hy544]; exact H) | exact H
                              have Ny544 := Aside0.mk hy544
                              clear hy544
                              by_cases c51 : 1 ≤ (x1_2.length : Int)
                              · rw [if_pos c51] at H
                                have c51b0 := eq_true c51
                                have c51b1 : decide (1 ≤ (x1_2.length : Int)) = true := decide_eq_true c51
                                clear c51
                                obtain ⟨y547, hy547⟩ : ∃ y_ : List (S31), y_ = (x1_2.drop 1) := ⟨_, rfl⟩
                                replace H : (escritoireref23_Join.l0 kj13 x0_2 y547 y544) = some r := by first | (rw [hy547]; with_reducible exact H) | (have H2_ := (Option.bind_some _ _).symm.trans H; rw [hy547]; with_reducible exact H2_) | (have H2_ := (Option.bind_some _ _).symm.trans H; with_reducible exact H2_) | with_reducible exact H | (rw [hy547]; exact H) | exact H
                                have Ny547 := Aside0.mk hy547
                                clear hy547
                                have H' := Aside0.mk H
                                clear H
                                obtain ⟨Ao52, co52, eo52⟩ := Kd.V_slice HO_0.out
                                subst eo52
                                obtain ⟨Ao53, co53, eo53⟩ := Kd.V_slice HO_1.out
                                subst eo53
                                have p543 : 0 ≤ (0 : Int) := (by omega)
                                have q543 : 0 < (x1_2.length : Int) := of_decide_eq_true (by first | (with_reducible assumption) | assumption)
                                obtain ⟨ad543, e543, hx543_0, hx543_1⟩ := at_T31 (Kd.V_reads' HO_1.out).2.2 0 p543 q543
                                cases e543
                                have qi543 : (0 < x1_2.length) = True := eq_true (by omega)
                                (try rw [show ((0 : Int)).toNat = 0 from rfl] at hx543_0)
                                (try rw [show 0 * 2 = 0 from rfl] at hx543_0)
                                (try rw [Addr.add_zero'] at hx543_0)
                                (try rw [show ((0 : Int)).toNat = 0 from rfl] at hx543_1)
                                (try rw [show 0 * 2 = 0 from rfl] at hx543_1)
                                (try rw [Addr.add_zero'] at hx543_1)
                                replace p543 := eq_true p543
                                replace q543 := eq_true q543
                                go_wp2_with (first | ((with_reducible refine gate_builtin (b := .append) (xs := #[.tmp 65, .tmp 69]) rfl ?_); (try (refine gate_guard (by rfl) ?_; dsimp only)); at_builtin; refine Kd.R_append k31 (w0 := w) w.heap.size rfl (.tmp 65) (.tmp 69) 22 31 (.agg #[(.int .i64 0), (.int .u64 0)]) 16 rfl Try.underlying22 info31 rfl (by decide) (by omega) u5 x5_2 (⟨(rd_T31 x1_2 0).f0, (rd_T31 x1_2 0).f1⟩ : S31) [.int .i64 ((rd_T31 x1_2 0).f0), .int .u64 ((rd_T31 x1_2 0).f1)] (fun k_ => (w.heap.size ≤ k_)) (fun _ => False) rfl rfl ?aP (fun _ hk => hk.elim) ?aF ?aO ?aB ?aS ?aL ?_; (case aP => exact k31_mkM _ _ _ (⟨(rd_T31 x1_2 0).f0, (rd_T31 x1_2 0).f1⟩ : S31)); (case aB => exact (by repeat (first | (with_reducible first | exact HB.out | apply below_alloc | apply pw_below_drewN | apply below_drew1) | exact HB.out))); (case aF => exact (fun k_ hk => (Nat.le_trans (below_size (by repeat (first | (with_reducible first | exact HB.out | apply below_alloc | apply pw_below_drewN | apply below_drew1) | exact HB.out))) hk))); (case aO => exact (by (with_reducible repeat (first | apply Kd.R_alloc | apply Kd.R_drewN | apply Kd.R_drew)); exact HO_5.out)); (case aS => exact (below_size (by repeat (first | (with_reducible first | exact HB.out | apply below_alloc | apply pw_below_drewN | apply below_drew1) | exact HB.out)))); (case aL => have := LMc50.out; omega); intro v545 w54 ho hb hg hat; rw [← Ny544.out] at ho; have n0_ := Aside0.mk (Kd.V_afterv (ok := (fun k_ => ((P0_ k_ ∨ P1_ k_) ∨ w.heap.size ≤ k_))) (by (with_reducible repeat (first | apply Kd.V_alloc | apply Kd.V_drewN | apply Kd.V_drew)); exact HO_0.out) hg hat); have n1_ := Aside0.mk (Kd.V_afterv (ok := (fun k_ => ((P0_ k_ ∨ P1_ k_) ∨ w.heap.size ≤ k_))) (by (with_reducible repeat (first | apply Kd.V_alloc | apply Kd.V_drewN | apply Kd.V_drew)); exact HO_1.out) hg hat); have n2_ := Aside0.mk (hb); have n3_ := Aside0.mk (ho); clear HO_0; clear HO_1; clear HB; clear HO_5; have HO_0 := n0_; have HO_1 := n1_; have HB := n2_; have HO546 := n3_; clear n0_ n1_ n2_ n3_; clear ho hb hg hat; have q55 : (1 : Int) ≤ ((x1_2.length : Int) : Int) := of_decide_eq_true (by first | (with_reducible assumption) | assumption); obtain ⟨i055, hi055, _, hsz55, _⟩ := info_parts info31; have hroom55 : x1_2.length ≤ co53 := (Kd.V_reads' HO_1.out).2.1; have hC55 : Kd.F k31 _ _ (some ad543) x1_2.length x1_2 := (Kd.V_at (base := w.heap.size) HO_1.out).2.2; have hcut55 := cut_from (P := Try.prog) 22 31 .i64 Try.underlying22 hi055 2 hsz55 (some ad543) x1_2.length co53 1 (by omega) q55; have hr55 := Kd.F_cut (m := (1 : Int).toNat) (c := co53) hC55 (by omega) hroom55; obtain ⟨A55, hA55⟩ : ∃ A1, A1 = (if co53 = (1 : Int).toNat then (some ad543) else ((some ad543) : Option Addr).map (·.add ((1 : Int).toNat * 2))) := ⟨_, rfl⟩; obtain ⟨c55, hc55⟩ : ∃ c1, c1 = co53 - (1 : Int).toNat := ⟨_, rfl⟩; have hy55 : y547.length = x1_2.length - (1 : Int).toNat := (by rw [Ny547.out, List.length_drop] <;> omega); rw [show (x1_2).drop (1 : Int).toNat = y547 from Ny547.out.symm] at hr55; replace hr55 : Kd.F k31 _ _ A55 y547.length y547 := (by rw [hA55]; exact hr55); rw [← hy55, ← hA55, ← hc55] at hcut55; have HO551 := Aside0.mk (show Kd.V k31 31 _ w.heap.size _ (.slice A55 y547.length c55) y547 from Kd.V_mk (by rw [hy55, hc55]; exact Nat.sub_le_sub_right hroom55 _) hr55); have HC551 := Aside0.mk (show y547.length ≤ c55 from by rw [hy55, hc55]; exact Nat.sub_le_sub_right hroom55 _); clear hr55 hC55 hroom55 hi055 hsz55 hc55; have KY55 := Aside0.mk hy55; have KA55 := Aside0.mk hA55; clear hy55 hA55; replace q55 := eq_true q55))
                                repeat (go_quiet (first | ((with_reducible refine gate_builtin (b := .append) (xs := #[.tmp 65, .tmp 69]) rfl ?_); (try (refine gate_guard (by rfl) ?_; dsimp only)); at_builtin; refine Kd.R_append k31 (w0 := w) w.heap.size rfl (.tmp 65) (.tmp 69) 22 31 (.agg #[(.int .i64 0), (.int .u64 0)]) 16 rfl Try.underlying22 info31 rfl (by decide) (by omega) u5 x5_2 (⟨(rd_T31 x1_2 0).f0, (rd_T31 x1_2 0).f1⟩ : S31) [.int .i64 ((rd_T31 x1_2 0).f0), .int .u64 ((rd_T31 x1_2 0).f1)] (fun k_ => (w.heap.size ≤ k_)) (fun _ => False) rfl rfl ?aP (fun _ hk => hk.elim) ?aF ?aO ?aB ?aS ?aL ?_; (case aP => exact k31_mkM _ _ _ (⟨(rd_T31 x1_2 0).f0, (rd_T31 x1_2 0).f1⟩ : S31)); (case aB => exact (by repeat (first | (with_reducible first | exact HB.out | apply below_alloc | apply pw_below_drewN | apply below_drew1) | exact HB.out))); (case aF => exact (fun k_ hk => (Nat.le_trans (below_size (by repeat (first | (with_reducible first | exact HB.out | apply below_alloc | apply pw_below_drewN | apply below_drew1) | exact HB.out))) hk))); (case aO => exact (by (with_reducible repeat (first | apply Kd.R_alloc | apply Kd.R_drewN | apply Kd.R_drew)); exact HO_5.out)); (case aS => exact (below_size (by repeat (first | (with_reducible first | exact HB.out | apply below_alloc | apply pw_below_drewN | apply below_drew1) | exact HB.out)))); (case aL => have := LMc50.out; omega); intro v545 w54 ho hb hg hat; rw [← Ny544.out] at ho; have n0_ := Aside0.mk (Kd.V_afterv (ok := (fun k_ => ((P0_ k_ ∨ P1_ k_) ∨ w.heap.size ≤ k_))) (by (with_reducible repeat (first | apply Kd.V_alloc | apply Kd.V_drewN | apply Kd.V_drew)); exact HO_0.out) hg hat); have n1_ := Aside0.mk (Kd.V_afterv (ok := (fun k_ => ((P0_ k_ ∨ P1_ k_) ∨ w.heap.size ≤ k_))) (by (with_reducible repeat (first | apply Kd.V_alloc | apply Kd.V_drewN | apply Kd.V_drew)); exact HO_1.out) hg hat); have n2_ := Aside0.mk (hb); have n3_ := Aside0.mk (ho); clear HO_0; clear HO_1; clear HB; clear HO_5; have HO_0 := n0_; have HO_1 := n1_; have HB := n2_; have HO546 := n3_; clear n0_ n1_ n2_ n3_; clear ho hb hg hat; have q55 : (1 : Int) ≤ ((x1_2.length : Int) : Int) := of_decide_eq_true (by first | (with_reducible assumption) | assumption); obtain ⟨i055, hi055, _, hsz55, _⟩ := info_parts info31; have hroom55 : x1_2.length ≤ co53 := (Kd.V_reads' HO_1.out).2.1; have hC55 : Kd.F k31 _ _ (some ad543) x1_2.length x1_2 := (Kd.V_at (base := w.heap.size) HO_1.out).2.2; have hcut55 := cut_from (P := Try.prog) 22 31 .i64 Try.underlying22 hi055 2 hsz55 (some ad543) x1_2.length co53 1 (by omega) q55; have hr55 := Kd.F_cut (m := (1 : Int).toNat) (c := co53) hC55 (by omega) hroom55; obtain ⟨A55, hA55⟩ : ∃ A1, A1 = (if co53 = (1 : Int).toNat then (some ad543) else ((some ad543) : Option Addr).map (·.add ((1 : Int).toNat * 2))) := ⟨_, rfl⟩; obtain ⟨c55, hc55⟩ : ∃ c1, c1 = co53 - (1 : Int).toNat := ⟨_, rfl⟩; have hy55 : y547.length = x1_2.length - (1 : Int).toNat := (by rw [Ny547.out, List.length_drop] <;> omega); rw [show (x1_2).drop (1 : Int).toNat = y547 from Ny547.out.symm] at hr55; replace hr55 : Kd.F k31 _ _ A55 y547.length y547 := (by rw [hA55]; exact hr55); rw [← hy55, ← hA55, ← hc55] at hcut55; have HO551 := Aside0.mk (show Kd.V k31 31 _ w.heap.size _ (.slice A55 y547.length c55) y547 from Kd.V_mk (by rw [hy55, hc55]; exact Nat.sub_le_sub_right hroom55 _) hr55); have HC551 := Aside0.mk (show y547.length ≤ c55 from by rw [hy55, hc55]; exact Nat.sub_le_sub_right hroom55 _); clear hr55 hC55 hroom55 hi055 hsz55 hc55; have KY55 := Aside0.mk hy55; have KA55 := Aside0.mk hA55; clear hy55 hA55; replace q55 := eq_true q55)); try go_wp2_with (first | ((with_reducible refine gate_builtin (b := .append) (xs := #[.tmp 65, .tmp 69]) rfl ?_); (try (refine gate_guard (by rfl) ?_; dsimp only)); at_builtin; refine Kd.R_append k31 (w0 := w) w.heap.size rfl (.tmp 65) (.tmp 69) 22 31 (.agg #[(.int .i64 0), (.int .u64 0)]) 16 rfl Try.underlying22 info31 rfl (by decide) (by omega) u5 x5_2 (⟨(rd_T31 x1_2 0).f0, (rd_T31 x1_2 0).f1⟩ : S31) [.int .i64 ((rd_T31 x1_2 0).f0), .int .u64 ((rd_T31 x1_2 0).f1)] (fun k_ => (w.heap.size ≤ k_)) (fun _ => False) rfl rfl ?aP (fun _ hk => hk.elim) ?aF ?aO ?aB ?aS ?aL ?_; (case aP => exact k31_mkM _ _ _ (⟨(rd_T31 x1_2 0).f0, (rd_T31 x1_2 0).f1⟩ : S31)); (case aB => exact (by repeat (first | (with_reducible first | exact HB.out | apply below_alloc | apply pw_below_drewN | apply below_drew1) | exact HB.out))); (case aF => exact (fun k_ hk => (Nat.le_trans (below_size (by repeat (first | (with_reducible first | exact HB.out | apply below_alloc | apply pw_below_drewN | apply below_drew1) | exact HB.out))) hk))); (case aO => exact (by (with_reducible repeat (first | apply Kd.R_alloc | apply Kd.R_drewN | apply Kd.R_drew)); exact HO_5.out)); (case aS => exact (below_size (by repeat (first | (with_reducible first | exact HB.out | apply below_alloc | apply pw_below_drewN | apply below_drew1) | exact HB.out)))); (case aL => have := LMc50.out; omega); intro v545 w54 ho hb hg hat; rw [← Ny544.out] at ho; have n0_ := Aside0.mk (Kd.V_afterv (ok := (fun k_ => ((P0_ k_ ∨ P1_ k_) ∨ w.heap.size ≤ k_))) (by (with_reducible repeat (first | apply Kd.V_alloc | apply Kd.V_drewN | apply Kd.V_drew)); exact HO_0.out) hg hat); have n1_ := Aside0.mk (Kd.V_afterv (ok := (fun k_ => ((P0_ k_ ∨ P1_ k_) ∨ w.heap.size ≤ k_))) (by (with_reducible repeat (first | apply Kd.V_alloc | apply Kd.V_drewN | apply Kd.V_drew)); exact HO_1.out) hg hat); have n2_ := Aside0.mk (hb); have n3_ := Aside0.mk (ho); clear HO_0; clear HO_1; clear HB; clear HO_5; have HO_0 := n0_; have HO_1 := n1_; have HB := n2_; have HO546 := n3_; clear n0_ n1_ n2_ n3_; clear ho hb hg hat; have q55 : (1 : Int) ≤ ((x1_2.length : Int) : Int) := of_decide_eq_true (by first | (with_reducible assumption) | assumption); obtain ⟨i055, hi055, _, hsz55, _⟩ := info_parts info31; have hroom55 : x1_2.length ≤ co53 := (Kd.V_reads' HO_1.out).2.1; have hC55 : Kd.F k31 _ _ (some ad543) x1_2.length x1_2 := (Kd.V_at (base := w.heap.size) HO_1.out).2.2; have hcut55 := cut_from (P := Try.prog) 22 31 .i64 Try.underlying22 hi055 2 hsz55 (some ad543) x1_2.length co53 1 (by omega) q55; have hr55 := Kd.F_cut (m := (1 : Int).toNat) (c := co53) hC55 (by omega) hroom55; obtain ⟨A55, hA55⟩ : ∃ A1, A1 = (if co53 = (1 : Int).toNat then (some ad543) else ((some ad543) : Option Addr).map (·.add ((1 : Int).toNat * 2))) := ⟨_, rfl⟩; obtain ⟨c55, hc55⟩ : ∃ c1, c1 = co53 - (1 : Int).toNat := ⟨_, rfl⟩; have hy55 : y547.length = x1_2.length - (1 : Int).toNat := (by rw [Ny547.out, List.length_drop] <;> omega); rw [show (x1_2).drop (1 : Int).toNat = y547 from Ny547.out.symm] at hr55; replace hr55 : Kd.F k31 _ _ A55 y547.length y547 := (by rw [hA55]; exact hr55); rw [← hy55, ← hA55, ← hc55] at hcut55; have HO551 := Aside0.mk (show Kd.V k31 31 _ w.heap.size _ (.slice A55 y547.length c55) y547 from Kd.V_mk (by rw [hy55, hc55]; exact Nat.sub_le_sub_right hroom55 _) hr55); have HC551 := Aside0.mk (show y547.length ≤ c55 from by rw [hy55, hc55]; exact Nat.sub_le_sub_right hroom55 _); clear hr55 hC55 hroom55 hi055 hsz55 hc55; have KY55 := Aside0.mk hy55; have KA55 := Aside0.mk hA55; clear hy55 hA55; replace q55 := eq_true q55)))
                                go_roundg kj13
                                case measure => have := HJ2.out; have := HK2.out; have := HJ7.out; have := HJ13.out; omega
                                case rel => exact ⟨(x0_2), (y547), (y544), H', ⟨by have := HJ2.out; have := HK2.out; have := HJ7.out; have := HJ13.out; omega⟩, ⟨by (with_reducible repeat (first | apply Kd.V_alloc | apply Kd.V_drewN | apply Kd.V_drew)); exact HO_0.out⟩, ⟨by (with_reducible repeat (first | apply Kd.V_alloc | apply Kd.V_drewN | apply Kd.V_drew)); exact HO551.out⟩, ⟨by (with_reducible repeat (first | apply Kd.R_alloc | apply Kd.R_drewN | apply Kd.R_drew)); exact HO546.out⟩, ⟨by repeat (first | (with_reducible first | exact HB.out | apply below_alloc | apply pw_below_drewN | apply below_drew1) | exact HB.out)⟩⟩
                              · rw [if_neg c51] at H
                                exact absurd H (by simp)
                            · rw [if_neg c50] at H
                              exact absurd H (by simp)
                          · rw [if_neg c49] at H
                            exact absurd H (by simp)
                · replace c13 := Bool.eq_false_iff.mpr c13
                  subst c13
                  have H1 : (some x5_2) = some r := by rw [if_neg (show ¬ (false = true) by decide)] at H; exact H
                  clear H
                  have H := H1
                  clear H1
                  obtain rfl := Option.some.inj H
                  go_wp2
                  repeat (go_quiet (fail); try go_wp2)
                  go_ret
                  exact ⟨_, by first | rfl | (simp [errW_none, errW_some] <;> rfl) | (simp [*, errW_none, errW_some] <;> rfl), by (with_reducible repeat (first | apply Kd.R_alloc | apply Kd.R_drewN | apply Kd.R_drew)); exact HO_5.out, by repeat (first | (with_reducible first | exact HB.out | apply below_alloc | apply pw_below_drewN | apply below_drew1) | exact HB.out)⟩

end Go.Proofs.Ytldlacphokbgcaa.Print
