-- Made by wip/tools/wprint.py, a program of this workplace, over the translation. Lean checks it.
import Derived.Test.YtjigomnmfhbjmaaPrint0
import Derived.Test.YtjigomnmfhbjmaaPrint1
import Derived.Test.YtjigomnmfhbjmaaPrint3
import Derived.Test.YtjigomnmfhbjmaaPrint4
import Derived.Test.YtjigomnmfhbjmaaPrint5
namespace Go.Proofs.Ytjigomnmfhbjmaa.Print
open Go.RowKit Go.Proofs.YtjigomnmfhbjmaaW.PrintWords Go.Proofs.YtjigomnmfhbjmaaW.PrintLast Go.Proofs.YtjigomnmfhbjmaaW.PrintMore
attribute [local go_sem] max2_int min2_int max_two min_two max_three min_three max_four min_four   -- for this text's walks alone
set_option linter.unusedVariables false
set_option linter.unusedSimpArgs false

/-! ### escritoirelaw22_TurnsNext: function 3 -/
def escritoirelaw22_TurnsNext.f (k : Nat) (a0 : Int) (l1 : List Bool) (l2 : List Int) : Option (Bool) := (escritoirelaw22_lives.f k).bind fun t190 => (if t190 = true then ((turns_Next.f k a0 l1).bind fun bt191 => ((escritoireref22_Next.f k a0 l1).bind fun bt193 => ((escritoirelaw22_early.f l2).bind fun t195 => (if bt191.1 = bt193.1 then (if (bt191.2 == bt193.2) = true then ((turns_Plan.f k t195 (wrap64 ((wrap64 (Int.tmod (IntKind.u64.wrap (a0)) 9)) - 1))).bind fun t198 => ((escritoireref22_Plan.f k t195 (wrap64 ((wrap64 (Int.tmod (IntKind.u64.wrap (a0)) 9)) - 1))).bind fun t201 => ((escritoireref01_SameInts.f k t198 t201).bind fun t204 => (some t204)))) else (some false)) else (some false))))) else (some false))
theorem escritoirelaw22_TurnsNext.mono : ∀ a0 a1 a2 k, LeO (escritoirelaw22_TurnsNext.f k a0 a1 a2) (escritoirelaw22_TurnsNext.f (k + 1) a0 a1 a2) := by
  intro a0 a1 a2 k
  unfold escritoirelaw22_TurnsNext.f
  repeat' first
      | (with_reducible exact escritoirelaw22_lives.mono _)
      | (with_reducible exact escritoireref01_SameInts.mono _ _ _)
      | (with_reducible exact escritoireref22_Next.mono _ _ _)
      | (with_reducible exact escritoireref22_Plan.mono _ _ _)
      | (with_reducible exact turns_Next.mono _ _ _)
      | (with_reducible exact turns_Plan.mono _ _ _)
      | (with_reducible exact LeO.refl _)
      | (with_reducible exact LeO.none _)
      | (with_reducible refine LeO.ite ?_ ?_)
      | (with_reducible refine LeO.bind ?_ (fun _ => ?_))
      | exact escritoirelaw22_lives.mono _
      | exact escritoireref01_SameInts.mono _ _ _
      | exact escritoireref22_Next.mono _ _ _
      | exact escritoireref22_Plan.mono _ _ _
      | exact turns_Next.mono _ _ _
      | exact turns_Plan.mono _ _ _
      | exact LeO.none _
      | refine LeO.ite ?_ ?_
      | refine LeO.bind ?_ (fun _ => ?_)
set_option maxHeartbeats 8000000 in
set_option maxRecDepth 100000 in
theorem escritoirelaw22_TurnsNext.calls (k : Nat) (a0 : Int) (A1 : Option Addr) (c1 : Nat) (l1 : List Bool) (A2 : Option Addr) (c2 : Nat) (l2 : List Int) (r : Bool) (w : World) (hr1 : Kd.C Kd.bool w A1 l1.length l1) (hc1 : l1.length ≤ c1) (hr2 : Kd.C (Kd.int .i64) w A2 l2.length l2) (hc2 : l2.length ≤ c2) (h : escritoirelaw22_TurnsNext.f k a0 l1 l2 = some r) :
    Calls Try.prog 3 #[.int .i64 a0, .slice A1 l1.length c1, .slice A2 l2.length c2] w fun e w' => e = .returned (.bool r) ∧ Below w.heap.size w w' := by
  have HR1 := Aside0.mk hr1
  have HC1 := Aside0.mk hc1
  clear hr1 hc1
  have HR2 := Aside0.mk hr2
  have HC2 := Aside0.mk hc2
  clear hr2 hc2
  have HB := Aside0.mk (Below.refl w.heap.size w)
  have H : ((escritoirelaw22_lives.f k).bind fun t190 => (if t190 = true then ((turns_Next.f k a0 l1).bind fun bt191 => ((escritoireref22_Next.f k a0 l1).bind fun bt193 => ((escritoirelaw22_early.f l2).bind fun t195 => (if bt191.1 = bt193.1 then (if (bt191.2 == bt193.2) = true then ((turns_Plan.f k t195 (wrap64 ((wrap64 (Int.tmod (IntKind.u64.wrap (a0)) 9)) - 1))).bind fun t198 => ((escritoireref22_Plan.f k t195 (wrap64 ((wrap64 (Int.tmod (IntKind.u64.wrap (a0)) 9)) - 1))).bind fun t201 => ((escritoireref01_SameInts.f k t198 t201).bind fun t204 => (some t204)))) else (some false)) else (some false))))) else (some false))) = some r := h
  clear h
  replace H := Option.bind_eq_some_iff.mp H
  obtain ⟨t190, A40, H⟩ := H
  replace H : (if t190 = true then ((turns_Next.f k a0 l1).bind fun bt191 => ((escritoireref22_Next.f k a0 l1).bind fun bt193 => ((escritoirelaw22_early.f l2).bind fun t195 => (if bt191.1 = bt193.1 then (if (bt191.2 == bt193.2) = true then ((turns_Plan.f k t195 (wrap64 ((wrap64 (Int.tmod (IntKind.u64.wrap (a0)) 9)) - 1))).bind fun t198 => ((escritoireref22_Plan.f k t195 (wrap64 ((wrap64 (Int.tmod (IntKind.u64.wrap (a0)) 9)) - 1))).bind fun t201 => ((escritoireref01_SameInts.f k t198 t201).bind fun t204 => (some t204)))) else (some false)) else (some false))))) else (some false)) = some r := H
  have A4 := Aside0.mk A40
  clear A40
  by_cases c5 : t190 = true
  · subst c5
    have H1 : ((turns_Next.f k a0 l1).bind fun bt191 => ((escritoireref22_Next.f k a0 l1).bind fun bt193 => ((escritoirelaw22_early.f l2).bind fun t195 => (if bt191.1 = bt193.1 then (if (bt191.2 == bt193.2) = true then ((turns_Plan.f k t195 (wrap64 ((wrap64 (Int.tmod (IntKind.u64.wrap (a0)) 9)) - 1))).bind fun t198 => ((escritoireref22_Plan.f k t195 (wrap64 ((wrap64 (Int.tmod (IntKind.u64.wrap (a0)) 9)) - 1))).bind fun t201 => ((escritoireref01_SameInts.f k t198 t201).bind fun t204 => (some t204)))) else (some false)) else (some false))))) = some r := by rw [if_pos rfl] at H; exact H
    clear H
    have H := H1
    clear H1
    replace H := Option.bind_eq_some_iff.mp H
    obtain ⟨⟨t191, t192⟩, A60, H⟩ := H
    replace H : ((escritoireref22_Next.f k a0 l1).bind fun bt193 => ((escritoirelaw22_early.f l2).bind fun t195 => (if t191 = bt193.1 then (if (t192 == bt193.2) = true then ((turns_Plan.f k t195 (wrap64 ((wrap64 (Int.tmod (IntKind.u64.wrap (a0)) 9)) - 1))).bind fun t198 => ((escritoireref22_Plan.f k t195 (wrap64 ((wrap64 (Int.tmod (IntKind.u64.wrap (a0)) 9)) - 1))).bind fun t201 => ((escritoireref01_SameInts.f k t198 t201).bind fun t204 => (some t204)))) else (some false)) else (some false)))) = some r := H
    have A6 := Aside0.mk A60
    clear A60
    replace H := Option.bind_eq_some_iff.mp H
    obtain ⟨⟨t193, t194⟩, A70, H⟩ := H
    replace H : ((escritoirelaw22_early.f l2).bind fun t195 => (if t191 = t193 then (if (t192 == t194) = true then ((turns_Plan.f k t195 (wrap64 ((wrap64 (Int.tmod (IntKind.u64.wrap (a0)) 9)) - 1))).bind fun t198 => ((escritoireref22_Plan.f k t195 (wrap64 ((wrap64 (Int.tmod (IntKind.u64.wrap (a0)) 9)) - 1))).bind fun t201 => ((escritoireref01_SameInts.f k t198 t201).bind fun t204 => (some t204)))) else (some false)) else (some false))) = some r := H
    have A7 := Aside0.mk A70
    clear A70
    replace H := Option.bind_eq_some_iff.mp H
    obtain ⟨t195, A80, H⟩ := H
    replace H : (if t191 = t193 then (if (t192 == t194) = true then ((turns_Plan.f k t195 (wrap64 ((wrap64 (Int.tmod (IntKind.u64.wrap (a0)) 9)) - 1))).bind fun t198 => ((escritoireref22_Plan.f k t195 (wrap64 ((wrap64 (Int.tmod (IntKind.u64.wrap (a0)) 9)) - 1))).bind fun t201 => ((escritoireref01_SameInts.f k t198 t201).bind fun t204 => (some t204)))) else (some false)) else (some false)) = some r := H
    have A8 := Aside0.mk A80
    clear A80
    by_cases c9 : t191 = t193
    · rw [if_pos c9] at H
      have c9b0 : (t191 == t193) = true := beq_iff_eq.mpr c9
      have c9b1 : (t191 != t193) = false := bne_eq_false_iff_eq.mpr c9
      clear c9
      by_cases c10 : (t192 == t194) = true
      · rw [if_pos c10] at H
        have c10b0 : (t192 == t194) = true := c10
        (try (have c10b1 : decide (t192 = t194) = true := by simpa using c10))
        (try (have c10b2 : (t192 == t194) = true := by simpa using c10))
        clear c10
        replace H := Option.bind_eq_some_iff.mp H
        obtain ⟨t198, A110, H⟩ := H
        replace H : ((escritoireref22_Plan.f k t195 (wrap64 ((wrap64 (Int.tmod (IntKind.u64.wrap (a0)) 9)) - 1))).bind fun t201 => ((escritoireref01_SameInts.f k t198 t201).bind fun t204 => (some t204))) = some r := H
        have A11 := Aside0.mk A110
        clear A110
        replace H := Option.bind_eq_some_iff.mp H
        obtain ⟨t201, A120, H⟩ := H
        replace H : ((escritoireref01_SameInts.f k t198 t201).bind fun t204 => (some t204)) = some r := H
        have A12 := Aside0.mk A120
        clear A120
        replace H := Option.bind_eq_some_iff.mp H
        obtain ⟨t204, A130, H⟩ := H
        replace H : (some t204) = some r := H
        have A13 := Aside0.mk A130
        clear A130
        obtain rfl := Option.some.inj H
        go_enter Try.func3, Try.ntmps3
        go_wp2_with (first | ((with_reducible refine gate_callee (f := 7) rfl ?_); refine goesL_ (some 12) rfl rfl Try.func7 (by kernel_rfl) rfl #[] rfl (by (try simp only [List.map_toArray, List.map_cons, List.map_nil]); first | done | rfl | (simp only [List.length_drop, List.length_take]; rfl)) ?_; (with_reducible refine (escritoirelaw22_lives.calls k  true _ A4.out).mono ?_); rintro e w14 ⟨rfl, hb⟩; refine ⟨_, rfl, ?_⟩; have n0_ := Aside0.mk (below_step (by repeat (first | (with_reducible first | exact HB.out | apply below_alloc | apply pw_below_drewN | apply below_drew1) | exact HB.out)) hb); clear HB; have HB := n0_; clear n0_; (try clear hb); (try clear hb2); (try clear hk); (try clear hi)) | ((with_reducible refine gate_callee (f := 8) rfl ?_); refine goesL_ (some 17) rfl rfl Try.func8 (by kernel_rfl) rfl #[.int .i64 a0, .slice A1 l1.length c1] rfl (by (try simp only [List.map_toArray, List.map_cons, List.map_nil]); first | done | rfl | (simp only [List.length_drop, List.length_take]; rfl)) ?_; (with_reducible refine (turns_Next.calls k a0 _ _ l1 t191 t192 _ ?side1 ?side2 A6.out).mono ?_); (case side1 => repeat (first | exact (Kd.C_below HR1.out HB.out) | (with_reducible refine Kd.C_alloc ?_ _) | (with_reducible refine Kd.C_drewN ?_ _) | (with_reducible refine Kd.C_drew ?_))); (case side2 => exact HC1.out); rintro e w15 ⟨rfl, hb⟩; refine ⟨_, rfl, ?_⟩; have n0_ := Aside0.mk (below_step (by repeat (first | (with_reducible first | exact HB.out | apply below_alloc | apply pw_below_drewN | apply below_drew1) | exact HB.out)) hb); clear HB; have HB := n0_; clear n0_; (try clear hb); (try clear hb2); (try clear hk); (try clear hi)) | ((with_reducible refine gate_callee (f := 9) rfl ?_); refine goesL_ (some 23) rfl rfl Try.func9 (by kernel_rfl) rfl #[.int .i64 a0, .slice A1 l1.length c1] rfl (by (try simp only [List.map_toArray, List.map_cons, List.map_nil]); first | done | rfl | (simp only [List.length_drop, List.length_take]; rfl)) ?_; (with_reducible refine (escritoireref22_Next.calls k a0 _ _ l1 t193 t194 _ ?side1 ?side2 A7.out).mono ?_); (case side1 => repeat (first | exact (Kd.C_below HR1.out HB.out) | (with_reducible refine Kd.C_alloc ?_ _) | (with_reducible refine Kd.C_drewN ?_ _) | (with_reducible refine Kd.C_drew ?_))); (case side2 => exact HC1.out); rintro e w' ⟨rfl, ⟨nd, rfl⟩⟩; refine ⟨_, rfl, ?_⟩) | ((with_reducible refine gate_callee (f := 10) rfl ?_); refine goesL_ (some 27) rfl rfl Try.func10 (by kernel_rfl) rfl #[.slice A2 l2.length c2] rfl (by (try simp only [List.map_toArray, List.map_cons, List.map_nil]); first | done | rfl | (simp only [List.length_drop, List.length_take]; rfl)) ?_; (with_reducible refine (escritoirelaw22_early.calls (fun k_ => k_ < w.heap.size) _ _ l2 t195 _ ?side1 A8.out).mono ?_); (case side1 => exact Kd.V_mk HC2.out (Kd.F_below (Kd.C_F (Kd.heap_int .i64) HR2.out) (by repeat (first | (with_reducible first | exact HB.out | apply below_alloc | apply pw_below_drewN | apply below_drew1) | exact HB.out)))); rintro e w16 ⟨v196, rfl, ho0, hb⟩; refine ⟨_, rfl, ?_⟩; have n0_ := Aside0.mk (Kd.V_lower (Kd.V_mono (ok' := fun k_ => True) ho0 (fun k_ hk_ => trivial)) (below_size (by repeat (first | (with_reducible first | exact HB.out | apply below_alloc | apply pw_below_drewN | apply below_drew1) | exact HB.out)))); have n1_ := Aside0.mk (below_step (by repeat (first | (with_reducible first | exact HB.out | apply below_alloc | apply pw_below_drewN | apply below_drew1) | exact HB.out)) hb); clear HB; have HO197 := n0_; have HB := n1_; clear n0_ n1_; (try clear hb); (try clear hb2); (try clear hk); (try clear hi); (try clear ho0); obtain ⟨Ao17, co17, eo17⟩ := Kd.V_slice HO197.out; subst eo17) | (go_at_call 12; (with_reducible refine (turns_Plan.calls k _ _ t195 (wrap64 ((wrap64 (Int.tmod (IntKind.u64.wrap (a0)) 9)) - 1)) t198 _ ?side1 ?side2 A11.out).mono ?_); (case side1 => repeat (first | exact (Kd.V_reads' HO197.out).2.2 | (with_reducible refine Kd.C_alloc ?_ _) | (with_reducible refine Kd.C_drewN ?_ _) | (with_reducible refine Kd.C_drew ?_))); (case side2 => exact (Kd.V_reads' HO197.out).2.1); rintro e w18 ⟨v199, rfl, ho0, hb⟩; have n0_ := Aside0.mk (Kd.V_elder' (by (with_reducible repeat (first | apply Kd.V_alloc | apply Kd.V_drewN | apply Kd.V_drew)); exact HO197.out) (Kd.R_base ho0) hb); have n1_ := Aside0.mk (Kd.R_lower ho0 (below_size (by repeat (first | (with_reducible first | exact HB.out | apply below_alloc | apply pw_below_drewN | apply below_drew1) | exact HB.out)))); have n2_ := Aside0.mk (below_step (by repeat (first | (with_reducible first | exact HB.out | apply below_alloc | apply pw_below_drewN | apply below_drew1) | exact HB.out)) hb); clear HO197; clear HB; have HO197 := n0_; have HO200 := n1_; have HB := n2_; clear n0_ n1_ n2_; (try clear hb); (try clear hb2); (try clear hk); (try clear hi); (try clear ho0)) | (go_at_call 13; (with_reducible refine (escritoireref22_Plan.calls k _ _ t195 (wrap64 ((wrap64 (Int.tmod (IntKind.u64.wrap (a0)) 9)) - 1)) t201 _ ?side1 ?side2 A12.out).mono ?_); (case side1 => repeat (first | exact (Kd.V_reads' HO197.out).2.2 | (with_reducible refine Kd.C_alloc ?_ _) | (with_reducible refine Kd.C_drewN ?_ _) | (with_reducible refine Kd.C_drew ?_))); (case side2 => exact (Kd.V_reads' HO197.out).2.1); rintro e w19 ⟨v202, rfl, ho0, hb⟩; have n0_ := Aside0.mk (Kd.V_elder' (by (with_reducible repeat (first | apply Kd.V_alloc | apply Kd.V_drewN | apply Kd.V_drew)); exact HO197.out) (Kd.R_base ho0) hb); have n1_ := Aside0.mk (Kd.R_elder' (by (with_reducible repeat (first | apply Kd.R_alloc | apply Kd.R_drewN | apply Kd.R_drew)); exact HO200.out) (Kd.R_base ho0) hb); have n2_ := Aside0.mk (Kd.R_lower (Kd.R_new' ho0 (Kd.R_lt (by (with_reducible repeat (first | apply Kd.R_alloc | apply Kd.R_drewN | apply Kd.R_drew)); exact HO200.out))) (below_size (by repeat (first | (with_reducible first | exact HB.out | apply below_alloc | apply pw_below_drewN | apply below_drew1) | exact HB.out)))); have n3_ := Aside0.mk (below_step (by repeat (first | (with_reducible first | exact HB.out | apply below_alloc | apply pw_below_drewN | apply below_drew1) | exact HB.out)) hb); clear HO197; clear HO200; clear HB; have HO197 := n0_; have HO200 := n1_; have HO203 := n2_; have HB := n3_; clear n0_ n1_ n2_ n3_; (try clear hb); (try clear hb2); (try clear hk); (try clear hi); (try clear ho0); obtain ⟨Ao20, co20, eo20⟩ := Kd.R_slice HO200.out; subst eo20; obtain ⟨Ao21, co21, eo21⟩ := Kd.R_slice HO203.out; subst eo21) | (go_at_call 11; (with_reducible refine (escritoireref01_SameInts.calls k _ _ t198 _ _ t201 t204 _ ?side1 ?side2 ?side3 ?side4 A13.out).mono ?_); (case side1 => repeat (first | exact (Kd.R_reads' HO200.out).2.2 | (with_reducible refine Kd.C_alloc ?_ _) | (with_reducible refine Kd.C_drewN ?_ _) | (with_reducible refine Kd.C_drew ?_))); (case side2 => exact (Kd.R_reads' HO200.out).2.1); (case side3 => repeat (first | exact (Kd.R_reads' HO203.out).2.2 | (with_reducible refine Kd.C_alloc ?_ _) | (with_reducible refine Kd.C_drewN ?_ _) | (with_reducible refine Kd.C_drew ?_))); (case side4 => exact (Kd.R_reads' HO203.out).2.1); rintro e w' ⟨rfl, ⟨nd, rfl⟩⟩))
        go_ret
        exact ⟨by first | rfl | (simp [errW_none, errW_some] <;> rfl) | (simp [*, errW_none, errW_some] <;> rfl), by repeat (first | (with_reducible first | exact HB.out | apply below_alloc | apply pw_below_drewN | apply below_drew1) | exact HB.out)⟩
      · rw [if_neg c10] at H
        have c10b0 : (t192 == t194) = false := by simpa using c10
        (try (have c10b1 : decide (t192 = t194) = false := by simpa using c10))
        (try (have c10b2 : (t192 == t194) = false := by simpa using c10))
        (try (have c10b3 : ¬ (t192 = t194) := by simpa using c10))
        clear c10
        obtain rfl := Option.some.inj H
        go_enter Try.func3, Try.ntmps3
        go_wp2_with (first | ((with_reducible refine gate_callee (f := 7) rfl ?_); refine goesL_ (some 12) rfl rfl Try.func7 (by kernel_rfl) rfl #[] rfl (by (try simp only [List.map_toArray, List.map_cons, List.map_nil]); first | done | rfl | (simp only [List.length_drop, List.length_take]; rfl)) ?_; (with_reducible refine (escritoirelaw22_lives.calls k  true _ A4.out).mono ?_); rintro e w22 ⟨rfl, hb⟩; refine ⟨_, rfl, ?_⟩; have n0_ := Aside0.mk (below_step (by repeat (first | (with_reducible first | exact HB.out | apply below_alloc | apply pw_below_drewN | apply below_drew1) | exact HB.out)) hb); clear HB; have HB := n0_; clear n0_; (try clear hb); (try clear hb2); (try clear hk); (try clear hi)) | ((with_reducible refine gate_callee (f := 8) rfl ?_); refine goesL_ (some 17) rfl rfl Try.func8 (by kernel_rfl) rfl #[.int .i64 a0, .slice A1 l1.length c1] rfl (by (try simp only [List.map_toArray, List.map_cons, List.map_nil]); first | done | rfl | (simp only [List.length_drop, List.length_take]; rfl)) ?_; (with_reducible refine (turns_Next.calls k a0 _ _ l1 t191 t192 _ ?side1 ?side2 A6.out).mono ?_); (case side1 => repeat (first | exact (Kd.C_below HR1.out HB.out) | (with_reducible refine Kd.C_alloc ?_ _) | (with_reducible refine Kd.C_drewN ?_ _) | (with_reducible refine Kd.C_drew ?_))); (case side2 => exact HC1.out); rintro e w23 ⟨rfl, hb⟩; refine ⟨_, rfl, ?_⟩; have n0_ := Aside0.mk (below_step (by repeat (first | (with_reducible first | exact HB.out | apply below_alloc | apply pw_below_drewN | apply below_drew1) | exact HB.out)) hb); clear HB; have HB := n0_; clear n0_; (try clear hb); (try clear hb2); (try clear hk); (try clear hi)) | ((with_reducible refine gate_callee (f := 9) rfl ?_); refine goesL_ (some 23) rfl rfl Try.func9 (by kernel_rfl) rfl #[.int .i64 a0, .slice A1 l1.length c1] rfl (by (try simp only [List.map_toArray, List.map_cons, List.map_nil]); first | done | rfl | (simp only [List.length_drop, List.length_take]; rfl)) ?_; (with_reducible refine (escritoireref22_Next.calls k a0 _ _ l1 t193 t194 _ ?side1 ?side2 A7.out).mono ?_); (case side1 => repeat (first | exact (Kd.C_below HR1.out HB.out) | (with_reducible refine Kd.C_alloc ?_ _) | (with_reducible refine Kd.C_drewN ?_ _) | (with_reducible refine Kd.C_drew ?_))); (case side2 => exact HC1.out); rintro e w' ⟨rfl, ⟨nd, rfl⟩⟩; refine ⟨_, rfl, ?_⟩) | ((with_reducible refine gate_callee (f := 10) rfl ?_); refine goesL_ (some 27) rfl rfl Try.func10 (by kernel_rfl) rfl #[.slice A2 l2.length c2] rfl (by (try simp only [List.map_toArray, List.map_cons, List.map_nil]); first | done | rfl | (simp only [List.length_drop, List.length_take]; rfl)) ?_; (with_reducible refine (escritoirelaw22_early.calls (fun k_ => k_ < w.heap.size) _ _ l2 t195 _ ?side1 A8.out).mono ?_); (case side1 => exact Kd.V_mk HC2.out (Kd.F_below (Kd.C_F (Kd.heap_int .i64) HR2.out) (by repeat (first | (with_reducible first | exact HB.out | apply below_alloc | apply pw_below_drewN | apply below_drew1) | exact HB.out)))); rintro e w24 ⟨v196, rfl, ho0, hb⟩; refine ⟨_, rfl, ?_⟩; have n0_ := Aside0.mk (Kd.V_lower (Kd.V_mono (ok' := fun k_ => True) ho0 (fun k_ hk_ => trivial)) (below_size (by repeat (first | (with_reducible first | exact HB.out | apply below_alloc | apply pw_below_drewN | apply below_drew1) | exact HB.out)))); have n1_ := Aside0.mk (below_step (by repeat (first | (with_reducible first | exact HB.out | apply below_alloc | apply pw_below_drewN | apply below_drew1) | exact HB.out)) hb); clear HB; have HO197 := n0_; have HB := n1_; clear n0_ n1_; (try clear hb); (try clear hb2); (try clear hk); (try clear hi); (try clear ho0)))
        go_ret
        exact ⟨by first | rfl | (simp [errW_none, errW_some] <;> rfl) | (simp [*, errW_none, errW_some] <;> rfl), by repeat (first | (with_reducible first | exact HB.out | apply below_alloc | apply pw_below_drewN | apply below_drew1) | exact HB.out)⟩
    · rw [if_neg c9] at H
      have c9b0 : (t191 == t193) = false := beq_eq_false_iff_ne.mpr c9
      have c9b1 : (t191 != t193) = true := bne_iff_ne.mpr c9
      obtain rfl := Option.some.inj H
      go_enter Try.func3, Try.ntmps3
      go_wp2_with (first | ((with_reducible refine gate_callee (f := 7) rfl ?_); refine goesL_ (some 12) rfl rfl Try.func7 (by kernel_rfl) rfl #[] rfl (by (try simp only [List.map_toArray, List.map_cons, List.map_nil]); first | done | rfl | (simp only [List.length_drop, List.length_take]; rfl)) ?_; (with_reducible refine (escritoirelaw22_lives.calls k  true _ A4.out).mono ?_); rintro e w25 ⟨rfl, hb⟩; refine ⟨_, rfl, ?_⟩; have n0_ := Aside0.mk (below_step (by repeat (first | (with_reducible first | exact HB.out | apply below_alloc | apply pw_below_drewN | apply below_drew1) | exact HB.out)) hb); clear HB; have HB := n0_; clear n0_; (try clear hb); (try clear hb2); (try clear hk); (try clear hi)) | ((with_reducible refine gate_callee (f := 8) rfl ?_); refine goesL_ (some 17) rfl rfl Try.func8 (by kernel_rfl) rfl #[.int .i64 a0, .slice A1 l1.length c1] rfl (by (try simp only [List.map_toArray, List.map_cons, List.map_nil]); first | done | rfl | (simp only [List.length_drop, List.length_take]; rfl)) ?_; (with_reducible refine (turns_Next.calls k a0 _ _ l1 t191 t192 _ ?side1 ?side2 A6.out).mono ?_); (case side1 => repeat (first | exact (Kd.C_below HR1.out HB.out) | (with_reducible refine Kd.C_alloc ?_ _) | (with_reducible refine Kd.C_drewN ?_ _) | (with_reducible refine Kd.C_drew ?_))); (case side2 => exact HC1.out); rintro e w26 ⟨rfl, hb⟩; refine ⟨_, rfl, ?_⟩; have n0_ := Aside0.mk (below_step (by repeat (first | (with_reducible first | exact HB.out | apply below_alloc | apply pw_below_drewN | apply below_drew1) | exact HB.out)) hb); clear HB; have HB := n0_; clear n0_; (try clear hb); (try clear hb2); (try clear hk); (try clear hi)) | ((with_reducible refine gate_callee (f := 9) rfl ?_); refine goesL_ (some 23) rfl rfl Try.func9 (by kernel_rfl) rfl #[.int .i64 a0, .slice A1 l1.length c1] rfl (by (try simp only [List.map_toArray, List.map_cons, List.map_nil]); first | done | rfl | (simp only [List.length_drop, List.length_take]; rfl)) ?_; (with_reducible refine (escritoireref22_Next.calls k a0 _ _ l1 t193 t194 _ ?side1 ?side2 A7.out).mono ?_); (case side1 => repeat (first | exact (Kd.C_below HR1.out HB.out) | (with_reducible refine Kd.C_alloc ?_ _) | (with_reducible refine Kd.C_drewN ?_ _) | (with_reducible refine Kd.C_drew ?_))); (case side2 => exact HC1.out); rintro e w' ⟨rfl, ⟨nd, rfl⟩⟩; refine ⟨_, rfl, ?_⟩) | ((with_reducible refine gate_callee (f := 10) rfl ?_); refine goesL_ (some 27) rfl rfl Try.func10 (by kernel_rfl) rfl #[.slice A2 l2.length c2] rfl (by (try simp only [List.map_toArray, List.map_cons, List.map_nil]); first | done | rfl | (simp only [List.length_drop, List.length_take]; rfl)) ?_; (with_reducible refine (escritoirelaw22_early.calls (fun k_ => k_ < w.heap.size) _ _ l2 t195 _ ?side1 A8.out).mono ?_); (case side1 => exact Kd.V_mk HC2.out (Kd.F_below (Kd.C_F (Kd.heap_int .i64) HR2.out) (by repeat (first | (with_reducible first | exact HB.out | apply below_alloc | apply pw_below_drewN | apply below_drew1) | exact HB.out)))); rintro e w27 ⟨v196, rfl, ho0, hb⟩; refine ⟨_, rfl, ?_⟩; have n0_ := Aside0.mk (Kd.V_lower (Kd.V_mono (ok' := fun k_ => True) ho0 (fun k_ hk_ => trivial)) (below_size (by repeat (first | (with_reducible first | exact HB.out | apply below_alloc | apply pw_below_drewN | apply below_drew1) | exact HB.out)))); have n1_ := Aside0.mk (below_step (by repeat (first | (with_reducible first | exact HB.out | apply below_alloc | apply pw_below_drewN | apply below_drew1) | exact HB.out)) hb); clear HB; have HO197 := n0_; have HB := n1_; clear n0_ n1_; (try clear hb); (try clear hb2); (try clear hk); (try clear hi); (try clear ho0)))
      go_ret
      exact ⟨by first | rfl | (simp [errW_none, errW_some] <;> rfl) | (simp [*, errW_none, errW_some] <;> rfl), by repeat (first | (with_reducible first | exact HB.out | apply below_alloc | apply pw_below_drewN | apply below_drew1) | exact HB.out)⟩
  · replace c5 := Bool.eq_false_iff.mpr c5
    subst c5
    have H1 : (some false) = some r := by rw [if_neg (show ¬ (false = true) by decide)] at H; exact H
    clear H
    have H := H1
    clear H1
    obtain rfl := Option.some.inj H
    go_enter Try.func3, Try.ntmps3
    go_wp2_with (first | ((with_reducible refine gate_callee (f := 7) rfl ?_); refine goesL_ (some 12) rfl rfl Try.func7 (by kernel_rfl) rfl #[] rfl (by (try simp only [List.map_toArray, List.map_cons, List.map_nil]); first | done | rfl | (simp only [List.length_drop, List.length_take]; rfl)) ?_; (with_reducible refine (escritoirelaw22_lives.calls k  false _ A4.out).mono ?_); rintro e w28 ⟨rfl, hb⟩; refine ⟨_, rfl, ?_⟩; have n0_ := Aside0.mk (below_step (by repeat (first | (with_reducible first | exact HB.out | apply below_alloc | apply pw_below_drewN | apply below_drew1) | exact HB.out)) hb); clear HB; have HB := n0_; clear n0_; (try clear hb); (try clear hb2); (try clear hk); (try clear hi)))
    go_ret
    exact ⟨by first | rfl | (simp [errW_none, errW_some] <;> rfl) | (simp [*, errW_none, errW_some] <;> rfl), by repeat (first | (with_reducible first | exact HB.out | apply below_alloc | apply pw_below_drewN | apply below_drew1) | exact HB.out)⟩

/-! ### escritoirelaw22_TurnsPlan: function 4 -/
mutual
def escritoirelaw22_TurnsPlan.l0 : Nat → List Int → Int → List Int → List Int → Int → Int → Option (Bool)
  | 0, _, _, _, _, _, _ => none
  | k + 1, x0, x1, x5, x6, x7, x8 => if x8 < (x0.length : Int) then (if 0 ≤ x8 then (if x8 < (x6.length : Int) then (if (rd x6 x8) = (mn (mx (rd x0 x8) 0) 1000) then (escritoirelaw22_TurnsPlan.l0 k x0 x1 x5 x6 (wrap64 (x7 + (rd x6 x8))) (wrap64 (x8 + 1))) else (some false)) else (none)) else (none)) else (if 0 ≤ (x0.length : Int) then (if ((x0.length : Int) : Int).toNat ≤ 35184372088832 then (escritoirelaw22_TurnsPlan.l1 k x0 x1 x5 x7 (List.replicate ((x0.length : Int) : Int).toNat 0) 0) else (none)) else (none))
def escritoirelaw22_TurnsPlan.l1 : Nat → List Int → Int → List Int → Int → List Int → Int → Option (Bool)
  | 0, _, _, _, _, _, _ => none
  | k + 1, x0, x1, x5, x7, x9, x10 => if x10 < (x5.length : Int) then (if 0 ≤ x10 then (if (rd x5 x10) < 0 then (escritoirelaw22_TurnsPlan.j2 k x0 x1 x5 x7 x9 x10 (rd x5 x10) true) else (escritoirelaw22_TurnsPlan.j2 k x0 x1 x5 x7 x9 x10 (rd x5 x10) (decide ((rd x5 x10) ≥ (x0.length : Int))))) else (none)) else (some (x7 == (x5.length : Int)))
def escritoirelaw22_TurnsPlan.j2 : Nat → List Int → Int → List Int → Int → List Int → Int → Int → Bool → Option (Bool)
  | 0, _, _, _, _, _, _, _, _ => none
  | k + 1, x0, x1, x5, x7, x9, x10, x11, x71 => if x71 = true then (some false) else (if 0 ≤ x11 then (if x11 < (x9.length : Int) then (if (rd x9 x11) > 0 then (if (wrap64 ((wrap64 ((wrap64 (x10 + 1)) - (rd x9 x11))) - 1)) > (wrap64 (x1 * (wrap64 ((x0.length : Int) - 1)))) then (some false) else (escritoirelaw22_TurnsPlan.l1 k x0 x1 x5 x7 (x9.set (x11 : Int).toNat (wrap64 (x10 + 1))) (wrap64 (x10 + 1)))) else (escritoirelaw22_TurnsPlan.l1 k x0 x1 x5 x7 (x9.set (x11 : Int).toNat (wrap64 (x10 + 1))) (wrap64 (x10 + 1)))) else (none)) else (none))
end
def escritoirelaw22_TurnsPlan.f (k : Nat) (l0 : List Int) (a1 : Int) : Option (Bool) := (escritoirelaw22_lives.f k).bind fun t205 => (if t205 = true then ((escritoirelaw22_early.f l0).bind fun t206 => ((turns_Plan.f k t206 (wrap64 (1 + (wrap64 (Int.tmod (IntKind.u64.wrap (a1)) 9))))).bind fun t209 => ((turns_Counts.f k t209 (t206.length : Int)).bind fun t212 => (escritoirelaw22_TurnsPlan.l0 k t206 (wrap64 (1 + (wrap64 (Int.tmod (IntKind.u64.wrap (a1)) 9)))) t209 t212 0 0)))) else (some false))
theorem escritoirelaw22_TurnsPlan.mono_l : ∀ k, (∀ y0 y1 y2 y3 y4 y5, LeO (escritoirelaw22_TurnsPlan.l0 k y0 y1 y2 y3 y4 y5) (escritoirelaw22_TurnsPlan.l0 (k + 1) y0 y1 y2 y3 y4 y5)) ∧ (∀ y0 y1 y2 y3 y4 y5, LeO (escritoirelaw22_TurnsPlan.l1 k y0 y1 y2 y3 y4 y5) (escritoirelaw22_TurnsPlan.l1 (k + 1) y0 y1 y2 y3 y4 y5)) ∧ (∀ y0 y1 y2 y3 y4 y5 y6 y7, LeO (escritoirelaw22_TurnsPlan.j2 k y0 y1 y2 y3 y4 y5 y6 y7) (escritoirelaw22_TurnsPlan.j2 (k + 1) y0 y1 y2 y3 y4 y5 y6 y7))
  | 0 => ⟨fun _ _ _ _ _ _ r h => by simp [escritoirelaw22_TurnsPlan.l0] at h, fun _ _ _ _ _ _ r h => by simp [escritoirelaw22_TurnsPlan.l1] at h, fun _ _ _ _ _ _ _ _ r h => by simp [escritoirelaw22_TurnsPlan.j2] at h⟩
  | k + 1 => by
    obtain ⟨ih0, ih1, ih2⟩ := escritoirelaw22_TurnsPlan.mono_l k
    refine ⟨?_, ?_, ?_⟩
    · intro y0 y1 y2 y3 y4 y5
      unfold escritoirelaw22_TurnsPlan.l0
      repeat' first
      | (with_reducible exact ih0 _ _ _ _ _ _)
      | (with_reducible exact ih1 _ _ _ _ _ _)
      | (with_reducible exact ih2 _ _ _ _ _ _ _ _)
      | (with_reducible exact escritoirelaw22_lives.mono _)
      | (with_reducible exact turns_Counts.mono _ _ _)
      | (with_reducible exact turns_Plan.mono _ _ _)
      | (with_reducible exact LeO.refl _)
      | (with_reducible exact LeO.none _)
      | (with_reducible refine LeO.ite ?_ ?_)
      | (with_reducible refine LeO.bind ?_ (fun _ => ?_))
      | exact ih0 _ _ _ _ _ _
      | exact ih1 _ _ _ _ _ _
      | exact ih2 _ _ _ _ _ _ _ _
      | exact escritoirelaw22_lives.mono _
      | exact turns_Counts.mono _ _ _
      | exact turns_Plan.mono _ _ _
      | exact LeO.none _
      | refine LeO.ite ?_ ?_
      | refine LeO.bind ?_ (fun _ => ?_)
    · intro y0 y1 y2 y3 y4 y5
      unfold escritoirelaw22_TurnsPlan.l1
      repeat' first
      | (with_reducible exact ih0 _ _ _ _ _ _)
      | (with_reducible exact ih1 _ _ _ _ _ _)
      | (with_reducible exact ih2 _ _ _ _ _ _ _ _)
      | (with_reducible exact escritoirelaw22_lives.mono _)
      | (with_reducible exact turns_Counts.mono _ _ _)
      | (with_reducible exact turns_Plan.mono _ _ _)
      | (with_reducible exact LeO.refl _)
      | (with_reducible exact LeO.none _)
      | (with_reducible refine LeO.ite ?_ ?_)
      | (with_reducible refine LeO.bind ?_ (fun _ => ?_))
      | exact ih0 _ _ _ _ _ _
      | exact ih1 _ _ _ _ _ _
      | exact ih2 _ _ _ _ _ _ _ _
      | exact escritoirelaw22_lives.mono _
      | exact turns_Counts.mono _ _ _
      | exact turns_Plan.mono _ _ _
      | exact LeO.none _
      | refine LeO.ite ?_ ?_
      | refine LeO.bind ?_ (fun _ => ?_)
    · intro y0 y1 y2 y3 y4 y5 y6 y7
      unfold escritoirelaw22_TurnsPlan.j2
      repeat' first
      | (with_reducible exact ih0 _ _ _ _ _ _)
      | (with_reducible exact ih1 _ _ _ _ _ _)
      | (with_reducible exact ih2 _ _ _ _ _ _ _ _)
      | (with_reducible exact escritoirelaw22_lives.mono _)
      | (with_reducible exact turns_Counts.mono _ _ _)
      | (with_reducible exact turns_Plan.mono _ _ _)
      | (with_reducible exact LeO.refl _)
      | (with_reducible exact LeO.none _)
      | (with_reducible refine LeO.ite ?_ ?_)
      | (with_reducible refine LeO.bind ?_ (fun _ => ?_))
      | exact ih0 _ _ _ _ _ _
      | exact ih1 _ _ _ _ _ _
      | exact ih2 _ _ _ _ _ _ _ _
      | exact escritoirelaw22_lives.mono _
      | exact turns_Counts.mono _ _ _
      | exact turns_Plan.mono _ _ _
      | exact LeO.none _
      | refine LeO.ite ?_ ?_
      | refine LeO.bind ?_ (fun _ => ?_)
theorem escritoirelaw22_TurnsPlan.mono : ∀ a0 a1 k, LeO (escritoirelaw22_TurnsPlan.f k a0 a1) (escritoirelaw22_TurnsPlan.f (k + 1) a0 a1) := by
  intro a0 a1 k
  obtain ⟨ih0, ih1, ih2⟩ := escritoirelaw22_TurnsPlan.mono_l k
  unfold escritoirelaw22_TurnsPlan.f
  repeat' first
      | (with_reducible exact ih0 _ _ _ _ _ _)
      | (with_reducible exact ih1 _ _ _ _ _ _)
      | (with_reducible exact ih2 _ _ _ _ _ _ _ _)
      | (with_reducible exact escritoirelaw22_lives.mono _)
      | (with_reducible exact turns_Counts.mono _ _ _)
      | (with_reducible exact turns_Plan.mono _ _ _)
      | (with_reducible exact LeO.refl _)
      | (with_reducible exact LeO.none _)
      | (with_reducible refine LeO.ite ?_ ?_)
      | (with_reducible refine LeO.bind ?_ (fun _ => ?_))
      | exact ih0 _ _ _ _ _ _
      | exact ih1 _ _ _ _ _ _
      | exact ih2 _ _ _ _ _ _ _ _
      | exact escritoirelaw22_lives.mono _
      | exact turns_Counts.mono _ _ _
      | exact turns_Plan.mono _ _ _
      | exact LeO.none _
      | refine LeO.ite ?_ ?_
      | refine LeO.bind ?_ (fun _ => ?_)
set_option maxHeartbeats 8000000 in
set_option maxRecDepth 100000 in
theorem escritoirelaw22_TurnsPlan.calls (k : Nat) (A0 : Option Addr) (c0 : Nat) (l0 : List Int) (a1 : Int) (r : Bool) (w : World) (hr0 : Kd.C (Kd.int .i64) w A0 l0.length l0) (hc0 : l0.length ≤ c0) (h : escritoirelaw22_TurnsPlan.f k l0 a1 = some r) :
    Calls Try.prog 4 #[.slice A0 l0.length c0, .int .i64 a1] w fun e w' => e = .returned (.bool r) ∧ Below w.heap.size w w' := by
  have HR0 := Aside0.mk hr0
  have HC0 := Aside0.mk hc0
  clear hr0 hc0
  have HB := Aside0.mk (Below.refl w.heap.size w)
  have H : ((escritoirelaw22_lives.f k).bind fun t205 => (if t205 = true then ((escritoirelaw22_early.f l0).bind fun t206 => ((turns_Plan.f k t206 (wrap64 (1 + (wrap64 (Int.tmod (IntKind.u64.wrap (a1)) 9))))).bind fun t209 => ((turns_Counts.f k t209 (t206.length : Int)).bind fun t212 => (escritoirelaw22_TurnsPlan.l0 k t206 (wrap64 (1 + (wrap64 (Int.tmod (IntKind.u64.wrap (a1)) 9)))) t209 t212 0 0)))) else (some false))) = some r := h
  clear h
  replace H := Option.bind_eq_some_iff.mp H
  obtain ⟨t205, A30, H⟩ := H
  replace H : (if t205 = true then ((escritoirelaw22_early.f l0).bind fun t206 => ((turns_Plan.f k t206 (wrap64 (1 + (wrap64 (Int.tmod (IntKind.u64.wrap (a1)) 9))))).bind fun t209 => ((turns_Counts.f k t209 (t206.length : Int)).bind fun t212 => (escritoirelaw22_TurnsPlan.l0 k t206 (wrap64 (1 + (wrap64 (Int.tmod (IntKind.u64.wrap (a1)) 9)))) t209 t212 0 0)))) else (some false)) = some r := H
  have A3 := Aside0.mk A30
  clear A30
  by_cases c4 : t205 = true
  · subst c4
    have H1 : ((escritoirelaw22_early.f l0).bind fun t206 => ((turns_Plan.f k t206 (wrap64 (1 + (wrap64 (Int.tmod (IntKind.u64.wrap (a1)) 9))))).bind fun t209 => ((turns_Counts.f k t209 (t206.length : Int)).bind fun t212 => (escritoirelaw22_TurnsPlan.l0 k t206 (wrap64 (1 + (wrap64 (Int.tmod (IntKind.u64.wrap (a1)) 9)))) t209 t212 0 0)))) = some r := by rw [if_pos rfl] at H; exact H
    clear H
    have H := H1
    clear H1
    replace H := Option.bind_eq_some_iff.mp H
    obtain ⟨t206, A50, H⟩ := H
    replace H : ((turns_Plan.f k t206 (wrap64 (1 + (wrap64 (Int.tmod (IntKind.u64.wrap (a1)) 9))))).bind fun t209 => ((turns_Counts.f k t209 (t206.length : Int)).bind fun t212 => (escritoirelaw22_TurnsPlan.l0 k t206 (wrap64 (1 + (wrap64 (Int.tmod (IntKind.u64.wrap (a1)) 9)))) t209 t212 0 0))) = some r := H
    have A5 := Aside0.mk A50
    clear A50
    replace H := Option.bind_eq_some_iff.mp H
    obtain ⟨t209, A60, H⟩ := H
    replace H : ((turns_Counts.f k t209 (t206.length : Int)).bind fun t212 => (escritoirelaw22_TurnsPlan.l0 k t206 (wrap64 (1 + (wrap64 (Int.tmod (IntKind.u64.wrap (a1)) 9)))) t209 t212 0 0)) = some r := H
    have A6 := Aside0.mk A60
    clear A60
    replace H := Option.bind_eq_some_iff.mp H
    obtain ⟨t212, A70, H⟩ := H
    replace H : (escritoirelaw22_TurnsPlan.l0 k t206 (wrap64 (1 + (wrap64 (Int.tmod (IntKind.u64.wrap (a1)) 9)))) t209 t212 0 0) = some r := H
    have A7 := Aside0.mk A70
    clear A70
    have H' := Aside0.mk H
    clear H
    go_enter Try.func4, Try.ntmps4
    go_wp2_with (first | (go_at_call 7; (with_reducible refine (escritoirelaw22_lives.calls k  true _ A3.out).mono ?_); rintro e w8 ⟨rfl, hb⟩; have n0_ := Aside0.mk (below_step (by repeat (first | (with_reducible first | exact HB.out | apply below_alloc | apply pw_below_drewN | apply below_drew1) | exact HB.out)) hb); clear HB; have HB := n0_; clear n0_; (try clear hb); (try clear hb2); (try clear hk); (try clear hi)) | (go_at_call 10; (with_reducible refine (escritoirelaw22_early.calls (fun k_ => k_ < w.heap.size) _ _ l0 t206 _ ?side1 A5.out).mono ?_); (case side1 => exact Kd.V_mk HC0.out (Kd.F_below (Kd.C_F (Kd.heap_int .i64) HR0.out) (by repeat (first | (with_reducible first | exact HB.out | apply below_alloc | apply pw_below_drewN | apply below_drew1) | exact HB.out)))); rintro e w9 ⟨v207, rfl, ho0, hb⟩; have n0_ := Aside0.mk (Kd.V_lower (Kd.V_mono (ok' := fun k_ => True) ho0 (fun k_ hk_ => trivial)) (below_size (by repeat (first | (with_reducible first | exact HB.out | apply below_alloc | apply pw_below_drewN | apply below_drew1) | exact HB.out)))); have n1_ := Aside0.mk (below_step (by repeat (first | (with_reducible first | exact HB.out | apply below_alloc | apply pw_below_drewN | apply below_drew1) | exact HB.out)) hb); clear HB; have HO208 := n0_; have HB := n1_; clear n0_ n1_; (try clear hb); (try clear hb2); (try clear hk); (try clear hi); (try clear ho0); obtain ⟨Ao10, co10, eo10⟩ := Kd.V_slice HO208.out; subst eo10) | (go_at_call 12; (with_reducible refine (turns_Plan.calls k _ _ t206 (wrap64 (1 + (wrap64 (Int.tmod (IntKind.u64.wrap (a1)) 9)))) t209 _ ?side1 ?side2 A6.out).mono ?_); (case side1 => repeat (first | exact (Kd.V_reads' HO208.out).2.2 | (with_reducible refine Kd.C_alloc ?_ _) | (with_reducible refine Kd.C_drewN ?_ _) | (with_reducible refine Kd.C_drew ?_))); (case side2 => exact (Kd.V_reads' HO208.out).2.1); rintro e w11 ⟨v210, rfl, ho0, hb⟩; have n0_ := Aside0.mk (Kd.V_elder' (by (with_reducible repeat (first | apply Kd.V_alloc | apply Kd.V_drewN | apply Kd.V_drew)); exact HO208.out) (Kd.R_base ho0) hb); have n1_ := Aside0.mk (Kd.R_lower ho0 (below_size (by repeat (first | (with_reducible first | exact HB.out | apply below_alloc | apply pw_below_drewN | apply below_drew1) | exact HB.out)))); have n2_ := Aside0.mk (below_step (by repeat (first | (with_reducible first | exact HB.out | apply below_alloc | apply pw_below_drewN | apply below_drew1) | exact HB.out)) hb); clear HO208; clear HB; have HO208 := n0_; have HO211 := n1_; have HB := n2_; clear n0_ n1_ n2_; (try clear hb); (try clear hb2); (try clear hk); (try clear hi); (try clear ho0); obtain ⟨Ao12, co12, eo12⟩ := Kd.R_slice HO211.out; subst eo12) | (go_at_call 14; (with_reducible refine (turns_Counts.calls k _ _ t209 (t206.length : Int) t212 _ ?side1 ?side2 A7.out).mono ?_); (case side1 => repeat (first | exact (Kd.R_reads' HO211.out).2.2 | (with_reducible refine Kd.C_alloc ?_ _) | (with_reducible refine Kd.C_drewN ?_ _) | (with_reducible refine Kd.C_drew ?_))); (case side2 => exact (Kd.R_reads' HO211.out).2.1); rintro e w13 ⟨v213, rfl, ho0, hb⟩; have n0_ := Aside0.mk (Kd.V_elder' (by (with_reducible repeat (first | apply Kd.V_alloc | apply Kd.V_drewN | apply Kd.V_drew)); exact HO208.out) (Kd.R_base ho0) hb); have n1_ := Aside0.mk (Kd.R_elder' (by (with_reducible repeat (first | apply Kd.R_alloc | apply Kd.R_drewN | apply Kd.R_drew)); exact HO211.out) (Kd.R_base ho0) hb); have n2_ := Aside0.mk (Kd.R_lower (Kd.R_new' ho0 (Kd.R_lt (by (with_reducible repeat (first | apply Kd.R_alloc | apply Kd.R_drewN | apply Kd.R_drew)); exact HO211.out))) (below_size (by repeat (first | (with_reducible first | exact HB.out | apply below_alloc | apply pw_below_drewN | apply below_drew1) | exact HB.out)))); have n3_ := Aside0.mk (below_step (by repeat (first | (with_reducible first | exact HB.out | apply below_alloc | apply pw_below_drewN | apply below_drew1) | exact HB.out)) hb); clear HO208; clear HO211; clear HB; have HO208 := n0_; have HO211 := n1_; have HO214 := n2_; have HB := n3_; clear n0_ n1_ n2_ n3_; (try clear hb); (try clear hb2); (try clear hk); (try clear hi); (try clear ho0)))
    repeat (go_quiet (first | (go_at_call 7; (with_reducible refine (escritoirelaw22_lives.calls k  true _ A3.out).mono ?_); rintro e w8 ⟨rfl, hb⟩; have n0_ := Aside0.mk (below_step (by repeat (first | (with_reducible first | exact HB.out | apply below_alloc | apply pw_below_drewN | apply below_drew1) | exact HB.out)) hb); clear HB; have HB := n0_; clear n0_; (try clear hb); (try clear hb2); (try clear hk); (try clear hi)) | (go_at_call 10; (with_reducible refine (escritoirelaw22_early.calls (fun k_ => k_ < w.heap.size) _ _ l0 t206 _ ?side1 A5.out).mono ?_); (case side1 => exact Kd.V_mk HC0.out (Kd.F_below (Kd.C_F (Kd.heap_int .i64) HR0.out) (by repeat (first | (with_reducible first | exact HB.out | apply below_alloc | apply pw_below_drewN | apply below_drew1) | exact HB.out)))); rintro e w9 ⟨v207, rfl, ho0, hb⟩; have n0_ := Aside0.mk (Kd.V_lower (Kd.V_mono (ok' := fun k_ => True) ho0 (fun k_ hk_ => trivial)) (below_size (by repeat (first | (with_reducible first | exact HB.out | apply below_alloc | apply pw_below_drewN | apply below_drew1) | exact HB.out)))); have n1_ := Aside0.mk (below_step (by repeat (first | (with_reducible first | exact HB.out | apply below_alloc | apply pw_below_drewN | apply below_drew1) | exact HB.out)) hb); clear HB; have HO208 := n0_; have HB := n1_; clear n0_ n1_; (try clear hb); (try clear hb2); (try clear hk); (try clear hi); (try clear ho0); obtain ⟨Ao10, co10, eo10⟩ := Kd.V_slice HO208.out; subst eo10) | (go_at_call 12; (with_reducible refine (turns_Plan.calls k _ _ t206 (wrap64 (1 + (wrap64 (Int.tmod (IntKind.u64.wrap (a1)) 9)))) t209 _ ?side1 ?side2 A6.out).mono ?_); (case side1 => repeat (first | exact (Kd.V_reads' HO208.out).2.2 | (with_reducible refine Kd.C_alloc ?_ _) | (with_reducible refine Kd.C_drewN ?_ _) | (with_reducible refine Kd.C_drew ?_))); (case side2 => exact (Kd.V_reads' HO208.out).2.1); rintro e w11 ⟨v210, rfl, ho0, hb⟩; have n0_ := Aside0.mk (Kd.V_elder' (by (with_reducible repeat (first | apply Kd.V_alloc | apply Kd.V_drewN | apply Kd.V_drew)); exact HO208.out) (Kd.R_base ho0) hb); have n1_ := Aside0.mk (Kd.R_lower ho0 (below_size (by repeat (first | (with_reducible first | exact HB.out | apply below_alloc | apply pw_below_drewN | apply below_drew1) | exact HB.out)))); have n2_ := Aside0.mk (below_step (by repeat (first | (with_reducible first | exact HB.out | apply below_alloc | apply pw_below_drewN | apply below_drew1) | exact HB.out)) hb); clear HO208; clear HB; have HO208 := n0_; have HO211 := n1_; have HB := n2_; clear n0_ n1_ n2_; (try clear hb); (try clear hb2); (try clear hk); (try clear hi); (try clear ho0); obtain ⟨Ao12, co12, eo12⟩ := Kd.R_slice HO211.out; subst eo12) | (go_at_call 14; (with_reducible refine (turns_Counts.calls k _ _ t209 (t206.length : Int) t212 _ ?side1 ?side2 A7.out).mono ?_); (case side1 => repeat (first | exact (Kd.R_reads' HO211.out).2.2 | (with_reducible refine Kd.C_alloc ?_ _) | (with_reducible refine Kd.C_drewN ?_ _) | (with_reducible refine Kd.C_drew ?_))); (case side2 => exact (Kd.R_reads' HO211.out).2.1); rintro e w13 ⟨v213, rfl, ho0, hb⟩; have n0_ := Aside0.mk (Kd.V_elder' (by (with_reducible repeat (first | apply Kd.V_alloc | apply Kd.V_drewN | apply Kd.V_drew)); exact HO208.out) (Kd.R_base ho0) hb); have n1_ := Aside0.mk (Kd.R_elder' (by (with_reducible repeat (first | apply Kd.R_alloc | apply Kd.R_drewN | apply Kd.R_drew)); exact HO211.out) (Kd.R_base ho0) hb); have n2_ := Aside0.mk (Kd.R_lower (Kd.R_new' ho0 (Kd.R_lt (by (with_reducible repeat (first | apply Kd.R_alloc | apply Kd.R_drewN | apply Kd.R_drew)); exact HO211.out))) (below_size (by repeat (first | (with_reducible first | exact HB.out | apply below_alloc | apply pw_below_drewN | apply below_drew1) | exact HB.out)))); have n3_ := Aside0.mk (below_step (by repeat (first | (with_reducible first | exact HB.out | apply below_alloc | apply pw_below_drewN | apply below_drew1) | exact HB.out)) hb); clear HO208; clear HO211; clear HB; have HO208 := n0_; have HO211 := n1_; have HO214 := n2_; have HB := n3_; clear n0_ n1_ n2_ n3_; (try clear hb); (try clear hb2); (try clear hk); (try clear hi); (try clear ho0))); try go_wp2_with (first | (go_at_call 7; (with_reducible refine (escritoirelaw22_lives.calls k  true _ A3.out).mono ?_); rintro e w8 ⟨rfl, hb⟩; have n0_ := Aside0.mk (below_step (by repeat (first | (with_reducible first | exact HB.out | apply below_alloc | apply pw_below_drewN | apply below_drew1) | exact HB.out)) hb); clear HB; have HB := n0_; clear n0_; (try clear hb); (try clear hb2); (try clear hk); (try clear hi)) | (go_at_call 10; (with_reducible refine (escritoirelaw22_early.calls (fun k_ => k_ < w.heap.size) _ _ l0 t206 _ ?side1 A5.out).mono ?_); (case side1 => exact Kd.V_mk HC0.out (Kd.F_below (Kd.C_F (Kd.heap_int .i64) HR0.out) (by repeat (first | (with_reducible first | exact HB.out | apply below_alloc | apply pw_below_drewN | apply below_drew1) | exact HB.out)))); rintro e w9 ⟨v207, rfl, ho0, hb⟩; have n0_ := Aside0.mk (Kd.V_lower (Kd.V_mono (ok' := fun k_ => True) ho0 (fun k_ hk_ => trivial)) (below_size (by repeat (first | (with_reducible first | exact HB.out | apply below_alloc | apply pw_below_drewN | apply below_drew1) | exact HB.out)))); have n1_ := Aside0.mk (below_step (by repeat (first | (with_reducible first | exact HB.out | apply below_alloc | apply pw_below_drewN | apply below_drew1) | exact HB.out)) hb); clear HB; have HO208 := n0_; have HB := n1_; clear n0_ n1_; (try clear hb); (try clear hb2); (try clear hk); (try clear hi); (try clear ho0); obtain ⟨Ao10, co10, eo10⟩ := Kd.V_slice HO208.out; subst eo10) | (go_at_call 12; (with_reducible refine (turns_Plan.calls k _ _ t206 (wrap64 (1 + (wrap64 (Int.tmod (IntKind.u64.wrap (a1)) 9)))) t209 _ ?side1 ?side2 A6.out).mono ?_); (case side1 => repeat (first | exact (Kd.V_reads' HO208.out).2.2 | (with_reducible refine Kd.C_alloc ?_ _) | (with_reducible refine Kd.C_drewN ?_ _) | (with_reducible refine Kd.C_drew ?_))); (case side2 => exact (Kd.V_reads' HO208.out).2.1); rintro e w11 ⟨v210, rfl, ho0, hb⟩; have n0_ := Aside0.mk (Kd.V_elder' (by (with_reducible repeat (first | apply Kd.V_alloc | apply Kd.V_drewN | apply Kd.V_drew)); exact HO208.out) (Kd.R_base ho0) hb); have n1_ := Aside0.mk (Kd.R_lower ho0 (below_size (by repeat (first | (with_reducible first | exact HB.out | apply below_alloc | apply pw_below_drewN | apply below_drew1) | exact HB.out)))); have n2_ := Aside0.mk (below_step (by repeat (first | (with_reducible first | exact HB.out | apply below_alloc | apply pw_below_drewN | apply below_drew1) | exact HB.out)) hb); clear HO208; clear HB; have HO208 := n0_; have HO211 := n1_; have HB := n2_; clear n0_ n1_ n2_; (try clear hb); (try clear hb2); (try clear hk); (try clear hi); (try clear ho0); obtain ⟨Ao12, co12, eo12⟩ := Kd.R_slice HO211.out; subst eo12) | (go_at_call 14; (with_reducible refine (turns_Counts.calls k _ _ t209 (t206.length : Int) t212 _ ?side1 ?side2 A7.out).mono ?_); (case side1 => repeat (first | exact (Kd.R_reads' HO211.out).2.2 | (with_reducible refine Kd.C_alloc ?_ _) | (with_reducible refine Kd.C_drewN ?_ _) | (with_reducible refine Kd.C_drew ?_))); (case side2 => exact (Kd.R_reads' HO211.out).2.1); rintro e w13 ⟨v213, rfl, ho0, hb⟩; have n0_ := Aside0.mk (Kd.V_elder' (by (with_reducible repeat (first | apply Kd.V_alloc | apply Kd.V_drewN | apply Kd.V_drew)); exact HO208.out) (Kd.R_base ho0) hb); have n1_ := Aside0.mk (Kd.R_elder' (by (with_reducible repeat (first | apply Kd.R_alloc | apply Kd.R_drewN | apply Kd.R_drew)); exact HO211.out) (Kd.R_base ho0) hb); have n2_ := Aside0.mk (Kd.R_lower (Kd.R_new' ho0 (Kd.R_lt (by (with_reducible repeat (first | apply Kd.R_alloc | apply Kd.R_drewN | apply Kd.R_drew)); exact HO211.out))) (below_size (by repeat (first | (with_reducible first | exact HB.out | apply below_alloc | apply pw_below_drewN | apply below_drew1) | exact HB.out)))); have n3_ := Aside0.mk (below_step (by repeat (first | (with_reducible first | exact HB.out | apply below_alloc | apply pw_below_drewN | apply below_drew1) | exact HB.out)) hb); clear HO208; clear HO211; clear HB; have HO208 := n0_; have HO211 := n1_; have HO214 := n2_; have HB := n3_; clear n0_ n1_ n2_ n3_; (try clear hb); (try clear hb2); (try clear hk); (try clear hi); (try clear ho0))))
    go_loopg [7, 8] k (fun kq v7 v8 w' => ∃ (x7_1 : Int) (x8_1 : Int), v7 = .int .i64 x7_1 ∧ v8 = .int .i64 x8_1 ∧ Aside0 (escritoirelaw22_TurnsPlan.l0 kq t206 (wrap64 (1 + (wrap64 (Int.tmod (IntKind.u64.wrap (a1)) 9)))) t209 t212 x7_1 x8_1 = some r) ∧ Aside0 (kq ≤ k) ∧ Aside0 (Kd.V (Kd.int .i64) 3 w' w.heap.size (fun k_ => some k_ ≠ ((.slice Ao12 t209.length co12) : Value).ownBlock ∧ some k_ ≠ (v213 : Value).ownBlock) (.slice Ao10 t206.length co10) t206) ∧ Aside0 (Kd.R (Kd.int .i64) 3 w' w.heap.size (fun k_ => some k_ ≠ (v213 : Value).ownBlock) (.slice Ao12 t209.length co12) t209) ∧ Aside0 (Kd.R (Kd.int .i64) 3 w' w.heap.size (fun k_ => some k_ ≠ ((.slice Ao12 t209.length co12) : Value).ownBlock) v213 t212) ∧ Aside0 (Below w.heap.size w w'))
    case atStart => exact ⟨(0), (0), (by first | rfl | (simp; done) | (simp [*]; done)), (by first | rfl | (simp; done) | (simp [*]; done)), H', ⟨Nat.le_refl _⟩, ⟨by (with_reducible repeat (first | apply Kd.V_alloc | apply Kd.V_drewN | apply Kd.V_drew)); exact Kd.V_mono HO208.out (fun _ hk => ⟨hk.1.2, hk.2⟩)⟩, ⟨by (with_reducible repeat (first | apply Kd.R_alloc | apply Kd.R_drewN | apply Kd.R_drew)); exact Kd.R_mono HO211.out (fun _ hk => hk.2)⟩, ⟨by (with_reducible repeat (first | apply Kd.R_alloc | apply Kd.R_drewN | apply Kd.R_drew)); exact Kd.R_mono HO214.out (fun _ hk => hk.2)⟩, ⟨by repeat (first | (with_reducible first | exact HB.out | apply below_alloc | apply pw_below_drewN | apply below_drew1) | exact HB.out)⟩⟩
    case round =>
      clear H'
      try clear p2
      try clear c4
      try clear p6
      obtain ⟨x7_1, x8_1, rfl, rfl, HA, HK1, HO_0, HO_5, HO_6, HB⟩ := hrel
      cases gk with
      | zero => exact absurd HA.out (by simp [escritoirelaw22_TurnsPlan.l0])
      | succ k1 =>
        have H := HA.out
        clear HA
        simp only [escritoirelaw22_TurnsPlan.l0] at H
        by_cases c14 : x8_1 < (t206.length : Int)
        · rw [if_pos c14] at H
          have c14b0 : decide (x8_1 < (t206.length : Int)) = true := decide_eq_true c14
          clear c14
          by_cases c15 : 0 ≤ x8_1
          · rw [if_pos c15] at H
            have c15b0 : decide (0 ≤ x8_1) = true := decide_eq_true c15
            clear c15
            by_cases c16 : x8_1 < (t212.length : Int)
            · rw [if_pos c16] at H
              have c16b0 : decide (x8_1 < (t212.length : Int)) = true := decide_eq_true c16
              clear c16
              obtain ⟨ji17, hji17⟩ : ∃ j_ : Int, (mx (rd t206 x8_1) 0) = j_ := ⟨_, rfl⟩
              replace H : (if (rd t212 x8_1) = (mn (ji17) 1000) then (escritoirelaw22_TurnsPlan.l0 k1 t206 (wrap64 (1 + (wrap64 (Int.tmod (IntKind.u64.wrap (a1)) 9)))) t209 t212 (wrap64 (x7_1 + (rd t212 x8_1))) (wrap64 (x8_1 + 1))) else (some false)) = some r := by first | (rw [hji17] at H; exact H) | (simp only [hji17] at H ⊢; exact H)
              have hji17_ : (if (rd t206 x8_1) < 0 then 0 else (rd t206 x8_1)) = ji17 := hji17
              obtain ⟨ji18, hji18⟩ : ∃ j_ : Int, (mn (ji17) 1000) = j_ := ⟨_, rfl⟩
              replace H : (if (rd t212 x8_1) = (ji18) then (escritoirelaw22_TurnsPlan.l0 k1 t206 (wrap64 (1 + (wrap64 (Int.tmod (IntKind.u64.wrap (a1)) 9)))) t209 t212 (wrap64 (x7_1 + (rd t212 x8_1))) (wrap64 (x8_1 + 1))) else (some false)) = some r := by first | (rw [hji18] at H; exact H) | (simp only [hji18] at H ⊢; exact H)
              have hji18_ : (if 1000 < (ji17) then 1000 else (ji17)) = ji18 := hji18
              by_cases c19 : (rd t212 x8_1) = (ji18)
              · rw [if_pos c19] at H
                have c19b0 : ((rd t212 x8_1) == (ji18)) = true := beq_iff_eq.mpr c19
                have c19b1 : ((rd t212 x8_1) != (ji18)) = false := bne_eq_false_iff_eq.mpr c19
                clear c19
                have H' := Aside0.mk H
                clear H
                obtain ⟨Ao20, co20, eo20⟩ := Kd.R_slice HO_6.out
                subst eo20
                have p215 : 0 ≤ (x8_1 : Int) := of_decide_eq_true (by first | (with_reducible assumption) | assumption)
                have q215 : x8_1 < (t212.length : Int) := of_decide_eq_true (by first | (with_reducible assumption) | assumption)
                obtain ⟨ad215, e215, hx215_0⟩ := Kd.at_int (Kd.R_reads' HO_6.out).2.2 x8_1 p215 q215
                cases e215
                replace p215 := eq_true p215
                replace q215 := eq_true q215
                have p216 : 0 ≤ (x8_1 : Int) := of_decide_eq_true (by first | (with_reducible assumption) | assumption)
                have q216 : x8_1 < (t206.length : Int) := of_decide_eq_true (by first | (with_reducible assumption) | assumption)
                obtain ⟨ad216, e216, hx216_0⟩ := Kd.at_int (Kd.V_reads' HO_0.out).2.2 x8_1 p216 q216
                cases e216
                replace p216 := eq_true p216
                replace q216 := eq_true q216
                have p217 : 0 ≤ (x8_1 : Int) := of_decide_eq_true (by first | (with_reducible assumption) | assumption)
                have q217 : x8_1 < (t212.length : Int) := of_decide_eq_true (by first | (with_reducible assumption) | assumption)
                obtain ⟨ad217, e217, hx217_0⟩ := Kd.at_int (Kd.R_reads' HO_6.out).2.2 x8_1 p217 q217
                obtain rfl : ad215 = ad217 := (by injection e217)
                replace p217 := eq_true p217
                replace q217 := eq_true q217
                go_wp2
                repeat (go_quiet (fail); try go_wp2)
                go_roundg k1
                case measure => have := HK1.out; omega
                case rel => exact ⟨(wrap64 (x7_1 + (rd t212 x8_1))), (wrap64 (x8_1 + 1)), (by first | rfl | (simp; done) | (simp [*]; done)), (by first | rfl | (simp; done) | (simp [*]; done)), H', ⟨by have := HK1.out; omega⟩, ⟨by (with_reducible repeat (first | apply Kd.V_alloc | apply Kd.V_drewN | apply Kd.V_drew)); exact HO_0.out⟩, ⟨by (with_reducible repeat (first | apply Kd.R_alloc | apply Kd.R_drewN | apply Kd.R_drew)); exact HO_5.out⟩, ⟨by (with_reducible repeat (first | apply Kd.R_alloc | apply Kd.R_drewN | apply Kd.R_drew)); exact HO_6.out⟩, ⟨by repeat (first | (with_reducible first | exact HB.out | apply below_alloc | apply pw_below_drewN | apply below_drew1) | exact HB.out)⟩⟩
              · rw [if_neg c19] at H
                have c19b0 : ((rd t212 x8_1) == (ji18)) = false := beq_eq_false_iff_ne.mpr c19
                have c19b1 : ((rd t212 x8_1) != (ji18)) = true := bne_iff_ne.mpr c19
                obtain rfl := Option.some.inj H
                obtain ⟨Ao21, co21, eo21⟩ := Kd.R_slice HO_6.out
                subst eo21
                have p215 : 0 ≤ (x8_1 : Int) := of_decide_eq_true (by first | (with_reducible assumption) | assumption)
                have q215 : x8_1 < (t212.length : Int) := of_decide_eq_true (by first | (with_reducible assumption) | assumption)
                obtain ⟨ad215, e215, hx215_0⟩ := Kd.at_int (Kd.R_reads' HO_6.out).2.2 x8_1 p215 q215
                cases e215
                replace p215 := eq_true p215
                replace q215 := eq_true q215
                have p216 : 0 ≤ (x8_1 : Int) := of_decide_eq_true (by first | (with_reducible assumption) | assumption)
                have q216 : x8_1 < (t206.length : Int) := of_decide_eq_true (by first | (with_reducible assumption) | assumption)
                obtain ⟨ad216, e216, hx216_0⟩ := Kd.at_int (Kd.V_reads' HO_0.out).2.2 x8_1 p216 q216
                cases e216
                replace p216 := eq_true p216
                replace q216 := eq_true q216
                go_wp2
                repeat (go_quiet (fail); try go_wp2)
                go_ret
                exact ⟨by first | rfl | (simp [errW_none, errW_some] <;> rfl) | (simp only [← hji17, ← hji18]; first | rfl | (simp [errW_none, errW_some] <;> rfl)) | (simp [*, errW_none, errW_some] <;> rfl), by repeat (first | (with_reducible first | exact HB.out | apply below_alloc | apply pw_below_drewN | apply below_drew1) | exact HB.out)⟩
            · rw [if_neg c16] at H
              exact absurd H (by simp)
          · rw [if_neg c15] at H
            exact absurd H (by simp)
        · rw [if_neg c14] at H
          have c14b0 : decide (x8_1 < (t206.length : Int)) = false := decide_eq_false c14
          clear c14
          by_cases c22 : 0 ≤ (t206.length : Int)
          · rw [if_pos c22] at H
            have c22b0 := eq_true c22
            have c22b1 : decide (0 ≤ (t206.length : Int)) = true := decide_eq_true c22
            clear c22
            by_cases c23 : ((t206.length : Int) : Int).toNat ≤ 35184372088832
            · rw [if_pos c23] at H
              have c23b0 := eq_true c23
              have c23b1 : decide (((t206.length : Int) : Int).toNat ≤ 35184372088832) = true := decide_eq_true c23
              clear c23
              obtain ⟨y218, hy218⟩ : ∃ y_ : List Int, y_ = (List.replicate ((t206.length : Int) : Int).toNat 0) := ⟨_, rfl⟩
              replace H : (escritoirelaw22_TurnsPlan.l1 k1 t206 (wrap64 (1 + (wrap64 (Int.tmod (IntKind.u64.wrap (a1)) 9)))) t209 x7_1 y218 0) = some r := by first | (rw [hy218]; with_reducible exact H) | (have H2_ := (Option.bind_some _ _).symm.trans H; rw [hy218]; with_reducible exact H2_) | (have H2_ := (Option.bind_some _ _).symm.trans H; with_reducible exact H2_) | with_reducible exact H | (rw [hy218]; exact H) | exact H
              have Ny218 := Aside0.mk hy218
              clear hy218
              have H' := Aside0.mk H
              clear H
              go_wp2_with (first | ((with_reducible refine gate_dst (N := 53) rfl ?_); (try (refine gate_guard (by rfl) ?_; dsimp only)); refine Kd.R_make (Kd.int .i64) _ 3 rfl (N := 53) rfl 23 _ _ rfl (t206.length : Int) rfl rfl Try.underlying23 (.int .i64 0) 8 info3 rfl (by decide) (by omega) 0 (ok := fun _ => True) (okp := fun _ => True) rfl (fun _ hk => hk) trivial (of_decide_eq_true (by first | (with_reducible assumption) | assumption)) (Nat.le_trans (Nat.mul_le_mul_right _ (of_decide_eq_true (by first | (with_reducible assumption) | assumption) : (t206.length : Int).toNat ≤ 35184372088832)) (by omega)) (Below.refl _ _) (Nat.le_refl _) ?_; intro v219 w24 ho25 hb hg_ hnew_; clear hg_ hnew_; (first | rw [← Ny218.out] at ho25 | (simp only [Int.reduceToNat] at ho25; rw [← Ny218.out] at ho25)); have n0_ := Aside0.mk (Kd.V_elder' (by (with_reducible repeat (first | apply Kd.V_alloc | apply Kd.V_drewN | apply Kd.V_drew)); exact HO_0.out) (Kd.R_base ho25) hb); have n1_ := Aside0.mk (Kd.R_elder' (by (with_reducible repeat (first | apply Kd.R_alloc | apply Kd.R_drewN | apply Kd.R_drew)); exact HO_5.out) (Kd.R_base ho25) hb); have n2_ := Aside0.mk (Kd.R_elder' (by (with_reducible repeat (first | apply Kd.R_alloc | apply Kd.R_drewN | apply Kd.R_drew)); exact HO_6.out) (Kd.R_base ho25) hb); have n3_ := Aside0.mk (Kd.R_lower (Kd.R_new' (Kd.R_new' ho25 (Kd.R_lt (by (with_reducible repeat (first | apply Kd.R_alloc | apply Kd.R_drewN | apply Kd.R_drew)); exact HO_5.out))) (Kd.R_lt (by (with_reducible repeat (first | apply Kd.R_alloc | apply Kd.R_drewN | apply Kd.R_drew)); exact HO_6.out))) (below_size (by repeat (first | (with_reducible first | exact HB.out | apply below_alloc | apply pw_below_drewN | apply below_drew1) | exact HB.out)))); have n4_ := Aside0.mk (below_step (by repeat (first | (with_reducible first | exact HB.out | apply below_alloc | apply pw_below_drewN | apply below_drew1) | exact HB.out)) hb); clear HO_0; clear HO_5; clear HO_6; clear HB; have HO_0 := n0_; have HO_5 := n1_; have HO_6 := n2_; have HO220 := n3_; have HB := n4_; clear n0_ n1_ n2_ n3_ n4_; clear hb ho25))
              repeat (go_quiet (first | ((with_reducible refine gate_dst (N := 53) rfl ?_); (try (refine gate_guard (by rfl) ?_; dsimp only)); refine Kd.R_make (Kd.int .i64) _ 3 rfl (N := 53) rfl 23 _ _ rfl (t206.length : Int) rfl rfl Try.underlying23 (.int .i64 0) 8 info3 rfl (by decide) (by omega) 0 (ok := fun _ => True) (okp := fun _ => True) rfl (fun _ hk => hk) trivial (of_decide_eq_true (by first | (with_reducible assumption) | assumption)) (Nat.le_trans (Nat.mul_le_mul_right _ (of_decide_eq_true (by first | (with_reducible assumption) | assumption) : (t206.length : Int).toNat ≤ 35184372088832)) (by omega)) (Below.refl _ _) (Nat.le_refl _) ?_; intro v219 w24 ho25 hb hg_ hnew_; clear hg_ hnew_; (first | rw [← Ny218.out] at ho25 | (simp only [Int.reduceToNat] at ho25; rw [← Ny218.out] at ho25)); have n0_ := Aside0.mk (Kd.V_elder' (by (with_reducible repeat (first | apply Kd.V_alloc | apply Kd.V_drewN | apply Kd.V_drew)); exact HO_0.out) (Kd.R_base ho25) hb); have n1_ := Aside0.mk (Kd.R_elder' (by (with_reducible repeat (first | apply Kd.R_alloc | apply Kd.R_drewN | apply Kd.R_drew)); exact HO_5.out) (Kd.R_base ho25) hb); have n2_ := Aside0.mk (Kd.R_elder' (by (with_reducible repeat (first | apply Kd.R_alloc | apply Kd.R_drewN | apply Kd.R_drew)); exact HO_6.out) (Kd.R_base ho25) hb); have n3_ := Aside0.mk (Kd.R_lower (Kd.R_new' (Kd.R_new' ho25 (Kd.R_lt (by (with_reducible repeat (first | apply Kd.R_alloc | apply Kd.R_drewN | apply Kd.R_drew)); exact HO_5.out))) (Kd.R_lt (by (with_reducible repeat (first | apply Kd.R_alloc | apply Kd.R_drewN | apply Kd.R_drew)); exact HO_6.out))) (below_size (by repeat (first | (with_reducible first | exact HB.out | apply below_alloc | apply pw_below_drewN | apply below_drew1) | exact HB.out)))); have n4_ := Aside0.mk (below_step (by repeat (first | (with_reducible first | exact HB.out | apply below_alloc | apply pw_below_drewN | apply below_drew1) | exact HB.out)) hb); clear HO_0; clear HO_5; clear HO_6; clear HB; have HO_0 := n0_; have HO_5 := n1_; have HO_6 := n2_; have HO220 := n3_; have HB := n4_; clear n0_ n1_ n2_ n3_ n4_; clear hb ho25)); try go_wp2_with (first | ((with_reducible refine gate_dst (N := 53) rfl ?_); (try (refine gate_guard (by rfl) ?_; dsimp only)); refine Kd.R_make (Kd.int .i64) _ 3 rfl (N := 53) rfl 23 _ _ rfl (t206.length : Int) rfl rfl Try.underlying23 (.int .i64 0) 8 info3 rfl (by decide) (by omega) 0 (ok := fun _ => True) (okp := fun _ => True) rfl (fun _ hk => hk) trivial (of_decide_eq_true (by first | (with_reducible assumption) | assumption)) (Nat.le_trans (Nat.mul_le_mul_right _ (of_decide_eq_true (by first | (with_reducible assumption) | assumption) : (t206.length : Int).toNat ≤ 35184372088832)) (by omega)) (Below.refl _ _) (Nat.le_refl _) ?_; intro v219 w24 ho25 hb hg_ hnew_; clear hg_ hnew_; (first | rw [← Ny218.out] at ho25 | (simp only [Int.reduceToNat] at ho25; rw [← Ny218.out] at ho25)); have n0_ := Aside0.mk (Kd.V_elder' (by (with_reducible repeat (first | apply Kd.V_alloc | apply Kd.V_drewN | apply Kd.V_drew)); exact HO_0.out) (Kd.R_base ho25) hb); have n1_ := Aside0.mk (Kd.R_elder' (by (with_reducible repeat (first | apply Kd.R_alloc | apply Kd.R_drewN | apply Kd.R_drew)); exact HO_5.out) (Kd.R_base ho25) hb); have n2_ := Aside0.mk (Kd.R_elder' (by (with_reducible repeat (first | apply Kd.R_alloc | apply Kd.R_drewN | apply Kd.R_drew)); exact HO_6.out) (Kd.R_base ho25) hb); have n3_ := Aside0.mk (Kd.R_lower (Kd.R_new' (Kd.R_new' ho25 (Kd.R_lt (by (with_reducible repeat (first | apply Kd.R_alloc | apply Kd.R_drewN | apply Kd.R_drew)); exact HO_5.out))) (Kd.R_lt (by (with_reducible repeat (first | apply Kd.R_alloc | apply Kd.R_drewN | apply Kd.R_drew)); exact HO_6.out))) (below_size (by repeat (first | (with_reducible first | exact HB.out | apply below_alloc | apply pw_below_drewN | apply below_drew1) | exact HB.out)))); have n4_ := Aside0.mk (below_step (by repeat (first | (with_reducible first | exact HB.out | apply below_alloc | apply pw_below_drewN | apply below_drew1) | exact HB.out)) hb); clear HO_0; clear HO_5; clear HO_6; clear HB; have HO_0 := n0_; have HO_5 := n1_; have HO_6 := n2_; have HO220 := n3_; have HB := n4_; clear n0_ n1_ n2_ n3_ n4_; clear hb ho25)))
              go_loopg [10] k1 (fun kq v10 w' => ∃ (x9_2 : List Int) (x10_2 : Int), v10 = .int .i64 x10_2 ∧ Aside0 (escritoirelaw22_TurnsPlan.l1 kq t206 (wrap64 (1 + (wrap64 (Int.tmod (IntKind.u64.wrap (a1)) 9)))) t209 x7_1 x9_2 x10_2 = some r) ∧ Aside0 (kq ≤ k1) ∧ Aside0 (Kd.V (Kd.int .i64) 3 w' w.heap.size (fun k_ => some k_ ≠ ((.slice Ao12 t209.length co12) : Value).ownBlock ∧ some k_ ≠ (v219 : Value).ownBlock) (.slice Ao10 t206.length co10) t206) ∧ Aside0 (Kd.R (Kd.int .i64) 3 w' w.heap.size (fun k_ => some k_ ≠ (v219 : Value).ownBlock) (.slice Ao12 t209.length co12) t209) ∧ Aside0 (Kd.R (Kd.int .i64) 3 w' w.heap.size (fun k_ => some k_ ≠ ((.slice Ao12 t209.length co12) : Value).ownBlock) v219 x9_2) ∧ Aside0 (Below w.heap.size w w'))
              case atStart => exact ⟨(y218), (0), (by first | rfl | (simp; done) | (simp [*]; done)), H', ⟨Nat.le_refl _⟩, ⟨by (with_reducible repeat (first | apply Kd.V_alloc | apply Kd.V_drewN | apply Kd.V_drew)); exact Kd.V_mono HO_0.out (fun _ hk => ⟨hk.1.1, hk.2⟩)⟩, ⟨by (with_reducible repeat (first | apply Kd.R_alloc | apply Kd.R_drewN | apply Kd.R_drew)); exact Kd.R_mono HO_5.out (fun _ hk => hk.2)⟩, ⟨by (with_reducible repeat (first | apply Kd.R_alloc | apply Kd.R_drewN | apply Kd.R_drew)); exact Kd.R_mono HO220.out (fun _ hk => hk.1.2)⟩, ⟨by repeat (first | (with_reducible first | exact HB.out | apply below_alloc | apply pw_below_drewN | apply below_drew1) | exact HB.out)⟩⟩
              case round =>
                clear H'
                try clear c1
                try clear c2
                try clear p2
                try clear q2
                try clear hx2
                try clear c4
                try clear p6
                try clear c14
                try clear c14b0
                try clear c15
                try clear c15b0
                try clear c16
                try clear c16b0
                try clear c19
                try clear c19b0
                try clear c19b1
                try clear p21
                try clear q21
                try clear hx21
                try clear c22
                try clear c22b0
                try clear c22b1
                try clear c23
                try clear c23b0
                try clear c23b1
                try clear hx215_0
                try clear hx216_0
                try clear hx217_0
                try clear p2
                try clear p215
                try clear p216
                try clear p217
                try clear p6
                try clear q215
                try clear q216
                try clear q217
                obtain ⟨x9_2, x10_2, rfl, HA, HK2, HO_0, HO_5, HO_9, HB⟩ := hrel
                cases gk with
                | zero => exact absurd HA.out (by simp [escritoirelaw22_TurnsPlan.l1])
                | succ k2 =>
                  have H := HA.out
                  clear HA
                  simp only [escritoirelaw22_TurnsPlan.l1] at H
                  by_cases c26 : x10_2 < (t209.length : Int)
                  · rw [if_pos c26] at H
                    have c26b0 : decide (x10_2 < (t209.length : Int)) = true := decide_eq_true c26
                    clear c26
                    by_cases c27 : 0 ≤ x10_2
                    · rw [if_pos c27] at H
                      have c27b0 : decide (0 ≤ x10_2) = true := decide_eq_true c27
                      clear c27
                      have HC28 := Aside0.mk H
                      clear H
                      have p221 : 0 ≤ (x10_2 : Int) := of_decide_eq_true (by first | (with_reducible assumption) | assumption)
                      have q221 : x10_2 < (t209.length : Int) := of_decide_eq_true (by first | (with_reducible assumption) | assumption)
                      obtain ⟨ad221, e221, hx221_0⟩ := Kd.at_int (Kd.R_reads' HO_5.out).2.2 x10_2 p221 q221
                      cases e221
                      replace p221 := eq_true p221
                      replace q221 := eq_true q221
                      go_upto_region 19 with (fail)
                      repeat (go_quiet (fail); go_upto_region 19 with (fail))
                      go_cut [71] (fun v71 wc => ∃ (kq : Nat) (x71_27 : Bool), v71 = .bool x71_27 ∧ Aside0 (escritoirelaw22_TurnsPlan.j2 kq t206 (wrap64 (1 + (wrap64 (Int.tmod (IntKind.u64.wrap (a1)) 9)))) t209 x7_1 x9_2 x10_2 (rd t209 x10_2) x71_27 = some r) ∧ Aside0 (kq ≤ k2) ∧ Aside0 (Kd.V (Kd.int .i64) 3 wc w.heap.size (fun k_ => some k_ ≠ ((.slice (some ad221) t209.length co12) : Value).ownBlock ∧ some k_ ≠ (v219 : Value).ownBlock) (.slice Ao10 t206.length co10) t206) ∧ Aside0 (Kd.R (Kd.int .i64) 3 wc w.heap.size (fun k_ => some k_ ≠ (v219 : Value).ownBlock) (.slice (some ad221) t209.length co12) t209) ∧ Aside0 (Kd.R (Kd.int .i64) 3 wc w.heap.size (fun k_ => some k_ ≠ ((.slice (some ad221) t209.length co12) : Value).ownBlock) v219 x9_2) ∧ Aside0 (Below w.heap.size w wc))
                      case first =>
                        have H := HC28.out
                        clear HC28
                        by_cases c29 : (rd t209 x10_2) < 0
                        · rw [if_pos c29] at H
                          have c29b0 : decide ((rd t209 x10_2) < 0) = true := decide_eq_true c29
                          clear c29
                          (first | rw [c29b0] | (simp only [i64_w, i32_w]; rw [c29b0]) | skip)
                          have H' := Aside0.mk H
                          clear H
                          go_wp2
                          repeat (go_quiet (fail); try go_wp2)
                          go_meet
                          case rel => exact ⟨_, (true), (by first | rfl | (simp; done) | (simp [*]; done)), H', ⟨by have := HK1.out; have := HK2.out; first | omega | exact Nat.le_refl _⟩, ⟨by (with_reducible repeat (first | apply Kd.V_alloc | apply Kd.V_drewN | apply Kd.V_drew)); exact HO_0.out⟩, ⟨by (with_reducible repeat (first | apply Kd.R_alloc | apply Kd.R_drewN | apply Kd.R_drew)); exact HO_5.out⟩, ⟨by (with_reducible repeat (first | apply Kd.R_alloc | apply Kd.R_drewN | apply Kd.R_drew)); exact HO_9.out⟩, ⟨by repeat (first | (with_reducible first | exact HB.out | apply below_alloc | apply pw_below_drewN | apply below_drew1) | exact HB.out)⟩⟩
                        · rw [if_neg c29] at H
                          have c29b0 : decide ((rd t209 x10_2) < 0) = false := decide_eq_false c29
                          clear c29
                          (first | rw [c29b0] | (simp only [i64_w, i32_w]; rw [c29b0]) | skip)
                          have H' := Aside0.mk H
                          clear H
                          go_wp2
                          repeat (go_quiet (fail); try go_wp2)
                          go_meet
                          case rel => exact ⟨_, (decide ((rd t209 x10_2) ≥ (t206.length : Int))), (by first | rfl | (simp; done) | (simp [*]; done)), H', ⟨by have := HK1.out; have := HK2.out; first | omega | exact Nat.le_refl _⟩, ⟨by (with_reducible repeat (first | apply Kd.V_alloc | apply Kd.V_drewN | apply Kd.V_drew)); exact HO_0.out⟩, ⟨by (with_reducible repeat (first | apply Kd.R_alloc | apply Kd.R_drewN | apply Kd.R_drew)); exact HO_5.out⟩, ⟨by (with_reducible repeat (first | apply Kd.R_alloc | apply Kd.R_drewN | apply Kd.R_drew)); exact HO_9.out⟩, ⟨by repeat (first | (with_reducible first | exact HB.out | apply below_alloc | apply pw_below_drewN | apply below_drew1) | exact HB.out)⟩⟩
                      case rest =>
                        clear HC28
                        try clear c1
                        try clear c2
                        try clear p2
                        try clear q2
                        try clear hx2
                        try clear c4
                        try clear p6
                        try clear c14
                        try clear c14b0
                        try clear c15
                        try clear c15b0
                        try clear c16
                        try clear c16b0
                        try clear c19
                        try clear c19b0
                        try clear c19b1
                        try clear p21
                        try clear q21
                        try clear hx21
                        try clear c22
                        try clear c22b0
                        try clear c22b1
                        try clear p22
                        try clear q22
                        try clear hx22
                        try clear c23
                        try clear c23b0
                        try clear c23b1
                        try clear c26
                        try clear c26b0
                        try clear c27
                        try clear c27b0
                        try clear c29
                        try clear c29b0
                        try clear hx215_0
                        try clear hx216_0
                        try clear hx217_0
                        try clear hx221_0
                        try clear p2
                        try clear p21
                        try clear p215
                        try clear p216
                        try clear p217
                        try clear p221
                        try clear p6
                        try clear q2
                        try clear q21
                        try clear q215
                        try clear q216
                        try clear q217
                        try clear q221
                        obtain ⟨kq, x71_27, rfl, HA, HJ27, HO_0, HO_5, HO_9, HB⟩ := hcut
                        cases kq with
                        | zero => exact absurd HA.out (by simp [escritoirelaw22_TurnsPlan.j2])
                        | succ kj27 =>
                          have H := HA.out
                          clear HA
                          simp only [escritoirelaw22_TurnsPlan.j2] at H
                          by_cases c30 : x71_27 = true
                          · subst c30
                            have H1 : (some false) = some r := by rw [if_pos rfl] at H; exact H
                            clear H
                            have H := H1
                            clear H1
                            obtain rfl := Option.some.inj H
                            go_wp2
                            repeat (go_quiet (fail); try go_wp2)
                            go_ret
                            exact ⟨by first | rfl | (simp [errW_none, errW_some] <;> rfl) | (simp [*, errW_none, errW_some] <;> rfl), by repeat (first | (with_reducible first | exact HB.out | apply below_alloc | apply pw_below_drewN | apply below_drew1) | exact HB.out)⟩
                          · replace c30 := Bool.eq_false_iff.mpr c30
                            subst c30
                            have H1 : (if 0 ≤ (rd t209 x10_2) then (if (rd t209 x10_2) < (x9_2.length : Int) then (if (rd x9_2 (rd t209 x10_2)) > 0 then (if (wrap64 ((wrap64 ((wrap64 (x10_2 + 1)) - (rd x9_2 (rd t209 x10_2)))) - 1)) > (wrap64 ((wrap64 (1 + (wrap64 (Int.tmod (IntKind.u64.wrap (a1)) 9)))) * (wrap64 ((t206.length : Int) - 1)))) then (some false) else (escritoirelaw22_TurnsPlan.l1 kj27 t206 (wrap64 (1 + (wrap64 (Int.tmod (IntKind.u64.wrap (a1)) 9)))) t209 x7_1 (x9_2.set ((rd t209 x10_2) : Int).toNat (wrap64 (x10_2 + 1))) (wrap64 (x10_2 + 1)))) else (escritoirelaw22_TurnsPlan.l1 kj27 t206 (wrap64 (1 + (wrap64 (Int.tmod (IntKind.u64.wrap (a1)) 9)))) t209 x7_1 (x9_2.set ((rd t209 x10_2) : Int).toNat (wrap64 (x10_2 + 1))) (wrap64 (x10_2 + 1)))) else (none)) else (none)) = some r := by rw [if_neg (show ¬ (false = true) by decide)] at H; exact H
                            clear H
                            have H := H1
                            clear H1
                            by_cases c31 : 0 ≤ (rd t209 x10_2)
                            · rw [if_pos c31] at H
                              have c31b0 : decide (0 ≤ (rd t209 x10_2)) = true := decide_eq_true c31
                              clear c31
                              by_cases c32 : (rd t209 x10_2) < (x9_2.length : Int)
                              · rw [if_pos c32] at H
                                have c32b0 : decide ((rd t209 x10_2) < (x9_2.length : Int)) = true := decide_eq_true c32
                                clear c32
                                by_cases c33 : (rd x9_2 (rd t209 x10_2)) > 0
                                · rw [if_pos c33] at H
                                  have c33b0 : decide (0 < (rd x9_2 (rd t209 x10_2))) = true := decide_eq_true c33
                                  clear c33
                                  by_cases c34 : (wrap64 ((wrap64 ((wrap64 (x10_2 + 1)) - (rd x9_2 (rd t209 x10_2)))) - 1)) > (wrap64 ((wrap64 (1 + (wrap64 (Int.tmod (IntKind.u64.wrap (a1)) 9)))) * (wrap64 ((t206.length : Int) - 1))))
                                  · rw [if_pos c34] at H
                                    have c34b0 : decide ((wrap64 ((wrap64 (1 + (wrap64 (Int.tmod (IntKind.u64.wrap (a1)) 9)))) * (wrap64 ((t206.length : Int) - 1)))) < (wrap64 ((wrap64 ((wrap64 (x10_2 + 1)) - (rd x9_2 (rd t209 x10_2)))) - 1))) = true := decide_eq_true c34
                                    clear c34
                                    obtain rfl := Option.some.inj H
                                    obtain ⟨Ao35, co35, eo35⟩ := Kd.R_slice HO_9.out
                                    subst eo35
                                    have p222 : 0 ≤ ((rd t209 x10_2) : Int) := of_decide_eq_true (by first | (with_reducible assumption) | assumption)
                                    have q222 : (rd t209 x10_2) < (x9_2.length : Int) := of_decide_eq_true (by first | (with_reducible assumption) | assumption)
                                    obtain ⟨ad222, e222, hx222_0⟩ := Kd.at_int (Kd.R_reads' HO_9.out).2.2 (rd t209 x10_2) p222 q222
                                    cases e222
                                    replace p222 := eq_true p222
                                    replace q222 := eq_true q222
                                    have p223 : 0 ≤ ((rd t209 x10_2) : Int) := of_decide_eq_true (by first | (with_reducible assumption) | assumption)
                                    have q223 : (rd t209 x10_2) < (x9_2.length : Int) := of_decide_eq_true (by first | (with_reducible assumption) | assumption)
                                    obtain ⟨ad223, e223, hx223_0⟩ := Kd.at_int (Kd.R_reads' HO_9.out).2.2 (rd t209 x10_2) p223 q223
                                    obtain rfl : ad222 = ad223 := (by injection e223)
                                    replace p223 := eq_true p223
                                    replace q223 := eq_true q223
                                    go_wp2
                                    repeat (go_quiet (fail); try go_wp2)
                                    go_ret
                                    exact ⟨by first | rfl | (simp [errW_none, errW_some] <;> rfl) | (simp [*, errW_none, errW_some] <;> rfl), by repeat (first | (with_reducible first | exact HB.out | apply below_alloc | apply pw_below_drewN | apply below_drew1) | exact HB.out)⟩
                                  · rw [if_neg c34] at H
                                    have c34b0 : decide ((wrap64 ((wrap64 (1 + (wrap64 (Int.tmod (IntKind.u64.wrap (a1)) 9)))) * (wrap64 ((t206.length : Int) - 1)))) < (wrap64 ((wrap64 ((wrap64 (x10_2 + 1)) - (rd x9_2 (rd t209 x10_2)))) - 1))) = false := decide_eq_false c34
                                    clear c34
                                    obtain ⟨y224, hy224⟩ : ∃ y_ : List Int, y_ = (x9_2.set ((rd t209 x10_2) : Int).toNat (wrap64 (x10_2 + 1))) := ⟨_, rfl⟩
                                    replace H : (escritoirelaw22_TurnsPlan.l1 kj27 t206 (wrap64 (1 + (wrap64 (Int.tmod (IntKind.u64.wrap (a1)) 9)))) t209 x7_1 y224 (wrap64 (x10_2 + 1))) = some r := by first | (rw [hy224]; with_reducible exact H) | (have H2_ := (Option.bind_some _ _).symm.trans H; rw [hy224]; with_reducible exact H2_) | (have H2_ := (Option.bind_some _ _).symm.trans H; with_reducible exact H2_) | with_reducible exact H | (rw [hy224]; exact H) | exact H
                                    have Ny224 := Aside0.mk hy224
                                    clear hy224
                                    have H' := Aside0.mk H
                                    clear H
                                    obtain ⟨Ao37, co37, eo37⟩ := Kd.R_slice HO_9.out
                                    subst eo37
                                    have p222 : 0 ≤ ((rd t209 x10_2) : Int) := of_decide_eq_true (by first | (with_reducible assumption) | assumption)
                                    have q222 : (rd t209 x10_2) < (x9_2.length : Int) := of_decide_eq_true (by first | (with_reducible assumption) | assumption)
                                    obtain ⟨ad222, e222, hx222_0⟩ := Kd.at_int (Kd.R_reads' HO_9.out).2.2 (rd t209 x10_2) p222 q222
                                    cases e222
                                    replace p222 := eq_true p222
                                    replace q222 := eq_true q222
                                    have p223 : 0 ≤ ((rd t209 x10_2) : Int) := of_decide_eq_true (by first | (with_reducible assumption) | assumption)
                                    have q223 : (rd t209 x10_2) < (x9_2.length : Int) := of_decide_eq_true (by first | (with_reducible assumption) | assumption)
                                    obtain ⟨ad223, e223, hx223_0⟩ := Kd.at_int (Kd.R_reads' HO_9.out).2.2 (rd t209 x10_2) p223 q223
                                    obtain rfl : ad222 = ad223 := (by injection e223)
                                    replace p223 := eq_true p223
                                    replace q223 := eq_true q223
                                    have p36 : 0 ≤ ((rd t209 x10_2) : Int) := of_decide_eq_true (by first | (with_reducible assumption) | assumption)
                                    have q36 : ((rd t209 x10_2) : Int) < ((x9_2.length : Int) : Int) := of_decide_eq_true (by first | (with_reducible assumption) | assumption)
                                    obtain ⟨go36, co36, eo36, gb36, gl36, cl36, HG36⟩ := Kd.R_form HO_9.out (by omega)
                                    (first | cases eo36 | (injection eo36 with ea_ en_ ec_; (first | subst ea_ | (injection ea_ with ea_; subst ea_)); subst ec_; clear en_))
                                    have GB36 := Aside0.mk gb36
                                    have GG36 := Aside0.mk HG36
                                    clear gb36 gl36 HG36
                                    (first | simp only [add_plain] at hx222_0 | skip)
                                    (first | simp only [add_plain] at hx223_0 | skip)
                                    obtain ⟨hx36_0, hf36_0⟩ := Kd.R_celln 0 HO_9.out ((rd t209 x10_2) : Int) p36 q36
                                    replace p36 := eq_true p36
                                    replace q36 := eq_true q36
                                    have HP38 := Kd.R_putg HO_9.out ((rd t209 x10_2) : Int) (wrap64 (x10_2 + 1))
                                    go_wp2_with (first | ((with_reducible refine gate_store (t := 3) (p := 97) rfl ?_); (try (rw [drewN_self wc]; generalize hq_ : World.drewN wc _ = wc; have n0_ := Aside0.mk (Kd.V_at hq_ HO_0.out); have n1_ := Aside0.mk (Kd.R_at hq_ HO_5.out); have n2_ := Aside0.mk (Kd.R_at hq_ HO_9.out); have n3_ := Aside0.mk (below_at hq_ HB.out); clear hq_ HO_0 HO_5 HO_9 HB; have HO_0 := n0_; have HO_5 := n1_; have HO_9 := n2_; have HB := n3_; clear n0_ n1_ n2_ n3_; (try (have HP38 := Kd.R_putg HO_9.out ((rd t209 x10_2) : Int) (wrap64 (x10_2 + 1)))))); refine store_event (t := 3) (p := 97) (v := ?vo_w39) (w1 := (wc.setCell ⟨go36, ((rd t209 x10_2) : Int).toNat, none⟩ (.int .i64 (wrap64 (x10_2 + 1))))) ?hg ?ho ?hn ?hr ?_; (case ho => rfl); (case hg => rfl); (case hn => rfl); (case hr => first | (go_simp; done) | (go_simp; rfl)); intro w39 hw; have hg : wc.grownBy w39 (some go36) := (by rw [hw]; exact HP38.2); have hp_ : Kd.R (Kd.int .i64) 3 w39 w.heap.size (fun k_ => some k_ ≠ (.slice (some ad221) t209.length co12 : Value).ownBlock) (.slice (some ⟨go36, 0, none⟩) x9_2.length co37) y224 := (by rw [hw, Ny224.out]; exact HP38.1); clear HP38; have n0_ := Aside0.mk (Kd.V_afterv (v := (.slice (some ⟨go36, 0, none⟩) x9_2.length co37)) (v1 := (.slice (some ⟨go36, 0, none⟩) x9_2.length co37)) (ok := (fun k_ => some k_ ≠ (.slice (some ad221) t209.length co12 : Value).ownBlock)) (by (with_reducible repeat (first | apply Kd.V_alloc | apply Kd.V_drewN | apply Kd.V_drew)); exact HO_0.out) hg (.inl rfl)); have n1_ := Aside0.mk (Kd.R_after (v := (.slice (some ⟨go36, 0, none⟩) x9_2.length co37)) (v1 := (.slice (some ⟨go36, 0, none⟩) x9_2.length co37)) (ok := (fun _ => True)) (by (with_reducible repeat (first | apply Kd.R_alloc | apply Kd.R_drewN | apply Kd.R_drew)); exact Kd.R_mono HO_5.out (fun _ hk => ⟨trivial, hk⟩)) hg (.inl rfl)); have n2_ := Aside0.mk (hp_); have n3_ := Aside0.mk ((by rw [hw]; exact below_set (HB.out) GB36.out : Below w.heap.size w w39)); clear HO_0; clear HO_5; clear HO_9; clear HB; have HO_0 := n0_; have HO_5 := n1_; have HO_9 := n2_; have HB := n3_; clear n0_ n1_ n2_ n3_; clear hg hw hp_))
                                    repeat (go_quiet (first | ((with_reducible refine gate_store (t := 3) (p := 97) rfl ?_); (try (rw [drewN_self wc]; generalize hq_ : World.drewN wc _ = wc; have n0_ := Aside0.mk (Kd.V_at hq_ HO_0.out); have n1_ := Aside0.mk (Kd.R_at hq_ HO_5.out); have n2_ := Aside0.mk (Kd.R_at hq_ HO_9.out); have n3_ := Aside0.mk (below_at hq_ HB.out); clear hq_ HO_0 HO_5 HO_9 HB; have HO_0 := n0_; have HO_5 := n1_; have HO_9 := n2_; have HB := n3_; clear n0_ n1_ n2_ n3_; (try (have HP38 := Kd.R_putg HO_9.out ((rd t209 x10_2) : Int) (wrap64 (x10_2 + 1)))))); refine store_event (t := 3) (p := 97) (v := ?vo_w39) (w1 := (wc.setCell ⟨go36, ((rd t209 x10_2) : Int).toNat, none⟩ (.int .i64 (wrap64 (x10_2 + 1))))) ?hg ?ho ?hn ?hr ?_; (case ho => rfl); (case hg => rfl); (case hn => rfl); (case hr => first | (go_simp; done) | (go_simp; rfl)); intro w39 hw; have hg : wc.grownBy w39 (some go36) := (by rw [hw]; exact HP38.2); have hp_ : Kd.R (Kd.int .i64) 3 w39 w.heap.size (fun k_ => some k_ ≠ (.slice (some ad221) t209.length co12 : Value).ownBlock) (.slice (some ⟨go36, 0, none⟩) x9_2.length co37) y224 := (by rw [hw, Ny224.out]; exact HP38.1); clear HP38; have n0_ := Aside0.mk (Kd.V_afterv (v := (.slice (some ⟨go36, 0, none⟩) x9_2.length co37)) (v1 := (.slice (some ⟨go36, 0, none⟩) x9_2.length co37)) (ok := (fun k_ => some k_ ≠ (.slice (some ad221) t209.length co12 : Value).ownBlock)) (by (with_reducible repeat (first | apply Kd.V_alloc | apply Kd.V_drewN | apply Kd.V_drew)); exact HO_0.out) hg (.inl rfl)); have n1_ := Aside0.mk (Kd.R_after (v := (.slice (some ⟨go36, 0, none⟩) x9_2.length co37)) (v1 := (.slice (some ⟨go36, 0, none⟩) x9_2.length co37)) (ok := (fun _ => True)) (by (with_reducible repeat (first | apply Kd.R_alloc | apply Kd.R_drewN | apply Kd.R_drew)); exact Kd.R_mono HO_5.out (fun _ hk => ⟨trivial, hk⟩)) hg (.inl rfl)); have n2_ := Aside0.mk (hp_); have n3_ := Aside0.mk ((by rw [hw]; exact below_set (HB.out) GB36.out : Below w.heap.size w w39)); clear HO_0; clear HO_5; clear HO_9; clear HB; have HO_0 := n0_; have HO_5 := n1_; have HO_9 := n2_; have HB := n3_; clear n0_ n1_ n2_ n3_; clear hg hw hp_)); try go_wp2_with (first | ((with_reducible refine gate_store (t := 3) (p := 97) rfl ?_); (try (rw [drewN_self wc]; generalize hq_ : World.drewN wc _ = wc; have n0_ := Aside0.mk (Kd.V_at hq_ HO_0.out); have n1_ := Aside0.mk (Kd.R_at hq_ HO_5.out); have n2_ := Aside0.mk (Kd.R_at hq_ HO_9.out); have n3_ := Aside0.mk (below_at hq_ HB.out); clear hq_ HO_0 HO_5 HO_9 HB; have HO_0 := n0_; have HO_5 := n1_; have HO_9 := n2_; have HB := n3_; clear n0_ n1_ n2_ n3_; (try (have HP38 := Kd.R_putg HO_9.out ((rd t209 x10_2) : Int) (wrap64 (x10_2 + 1)))))); refine store_event (t := 3) (p := 97) (v := ?vo_w39) (w1 := (wc.setCell ⟨go36, ((rd t209 x10_2) : Int).toNat, none⟩ (.int .i64 (wrap64 (x10_2 + 1))))) ?hg ?ho ?hn ?hr ?_; (case ho => rfl); (case hg => rfl); (case hn => rfl); (case hr => first | (go_simp; done) | (go_simp; rfl)); intro w39 hw; have hg : wc.grownBy w39 (some go36) := (by rw [hw]; exact HP38.2); have hp_ : Kd.R (Kd.int .i64) 3 w39 w.heap.size (fun k_ => some k_ ≠ (.slice (some ad221) t209.length co12 : Value).ownBlock) (.slice (some ⟨go36, 0, none⟩) x9_2.length co37) y224 := (by rw [hw, Ny224.out]; exact HP38.1); clear HP38; have n0_ := Aside0.mk (Kd.V_afterv (v := (.slice (some ⟨go36, 0, none⟩) x9_2.length co37)) (v1 := (.slice (some ⟨go36, 0, none⟩) x9_2.length co37)) (ok := (fun k_ => some k_ ≠ (.slice (some ad221) t209.length co12 : Value).ownBlock)) (by (with_reducible repeat (first | apply Kd.V_alloc | apply Kd.V_drewN | apply Kd.V_drew)); exact HO_0.out) hg (.inl rfl)); have n1_ := Aside0.mk (Kd.R_after (v := (.slice (some ⟨go36, 0, none⟩) x9_2.length co37)) (v1 := (.slice (some ⟨go36, 0, none⟩) x9_2.length co37)) (ok := (fun _ => True)) (by (with_reducible repeat (first | apply Kd.R_alloc | apply Kd.R_drewN | apply Kd.R_drew)); exact Kd.R_mono HO_5.out (fun _ hk => ⟨trivial, hk⟩)) hg (.inl rfl)); have n2_ := Aside0.mk (hp_); have n3_ := Aside0.mk ((by rw [hw]; exact below_set (HB.out) GB36.out : Below w.heap.size w w39)); clear HO_0; clear HO_5; clear HO_9; clear HB; have HO_0 := n0_; have HO_5 := n1_; have HO_9 := n2_; have HB := n3_; clear n0_ n1_ n2_ n3_; clear hg hw hp_)))
                                    go_roundg kj27
                                    case measure => have := HK1.out; have := HK2.out; have := HJ27.out; omega
                                    case rel => exact ⟨(y224), (wrap64 (x10_2 + 1)), (by first | rfl | (simp; done) | (simp [*]; done)), H', ⟨by have := HK1.out; have := HK2.out; have := HJ27.out; omega⟩, ⟨by (with_reducible repeat (first | apply Kd.V_alloc | apply Kd.V_drewN | apply Kd.V_drew)); exact HO_0.out⟩, ⟨by (with_reducible repeat (first | apply Kd.R_alloc | apply Kd.R_drewN | apply Kd.R_drew)); exact Kd.R_mono HO_5.out (fun _ hk => hk.2)⟩, ⟨by (with_reducible repeat (first | apply Kd.R_alloc | apply Kd.R_drewN | apply Kd.R_drew)); exact HO_9.out⟩, ⟨by repeat (first | (with_reducible first | exact HB.out | apply below_alloc | apply pw_below_drewN | apply below_drew1) | exact HB.out)⟩⟩
                                · rw [if_neg c33] at H
                                  have c33b0 : decide (0 < (rd x9_2 (rd t209 x10_2))) = false := decide_eq_false c33
                                  clear c33
                                  obtain ⟨y225, hy225⟩ : ∃ y_ : List Int, y_ = (x9_2.set ((rd t209 x10_2) : Int).toNat (wrap64 (x10_2 + 1))) := ⟨_, rfl⟩
                                  replace H : (escritoirelaw22_TurnsPlan.l1 kj27 t206 (wrap64 (1 + (wrap64 (Int.tmod (IntKind.u64.wrap (a1)) 9)))) t209 x7_1 y225 (wrap64 (x10_2 + 1))) = some r := by first | (rw [hy225]; with_reducible exact H) | (have H2_ := (Option.bind_some _ _).symm.trans H; rw [hy225]; with_reducible exact H2_) | (have H2_ := (Option.bind_some _ _).symm.trans H; with_reducible exact H2_) | with_reducible exact H | (rw [hy225]; exact H) | exact H
                                  have Ny225 := Aside0.mk hy225
                                  clear hy225
                                  have H' := Aside0.mk H
                                  clear H
                                  obtain ⟨Ao41, co41, eo41⟩ := Kd.R_slice HO_9.out
                                  subst eo41
                                  have p222 : 0 ≤ ((rd t209 x10_2) : Int) := of_decide_eq_true (by first | (with_reducible assumption) | assumption)
                                  have q222 : (rd t209 x10_2) < (x9_2.length : Int) := of_decide_eq_true (by first | (with_reducible assumption) | assumption)
                                  obtain ⟨ad222, e222, hx222_0⟩ := Kd.at_int (Kd.R_reads' HO_9.out).2.2 (rd t209 x10_2) p222 q222
                                  cases e222
                                  replace p222 := eq_true p222
                                  replace q222 := eq_true q222
                                  have p40 : 0 ≤ ((rd t209 x10_2) : Int) := of_decide_eq_true (by first | (with_reducible assumption) | assumption)
                                  have q40 : ((rd t209 x10_2) : Int) < ((x9_2.length : Int) : Int) := of_decide_eq_true (by first | (with_reducible assumption) | assumption)
                                  obtain ⟨go40, co40, eo40, gb40, gl40, cl40, HG40⟩ := Kd.R_form HO_9.out (by omega)
                                  (first | cases eo40 | (injection eo40 with ea_ en_ ec_; (first | subst ea_ | (injection ea_ with ea_; subst ea_)); subst ec_; clear en_))
                                  have GB40 := Aside0.mk gb40
                                  have GG40 := Aside0.mk HG40
                                  clear gb40 gl40 HG40
                                  (first | simp only [add_plain] at hx222_0 | skip)
                                  obtain ⟨hx40_0, hf40_0⟩ := Kd.R_celln 0 HO_9.out ((rd t209 x10_2) : Int) p40 q40
                                  replace p40 := eq_true p40
                                  replace q40 := eq_true q40
                                  have HP42 := Kd.R_putg HO_9.out ((rd t209 x10_2) : Int) (wrap64 (x10_2 + 1))
                                  go_wp2_with (first | ((with_reducible refine gate_store (t := 3) (p := 97) rfl ?_); (try (rw [drewN_self wc]; generalize hq_ : World.drewN wc _ = wc; have n0_ := Aside0.mk (Kd.V_at hq_ HO_0.out); have n1_ := Aside0.mk (Kd.R_at hq_ HO_5.out); have n2_ := Aside0.mk (Kd.R_at hq_ HO_9.out); have n3_ := Aside0.mk (below_at hq_ HB.out); clear hq_ HO_0 HO_5 HO_9 HB; have HO_0 := n0_; have HO_5 := n1_; have HO_9 := n2_; have HB := n3_; clear n0_ n1_ n2_ n3_; (try (have HP42 := Kd.R_putg HO_9.out ((rd t209 x10_2) : Int) (wrap64 (x10_2 + 1)))))); refine store_event (t := 3) (p := 97) (v := ?vo_w43) (w1 := (wc.setCell ⟨go40, ((rd t209 x10_2) : Int).toNat, none⟩ (.int .i64 (wrap64 (x10_2 + 1))))) ?hg ?ho ?hn ?hr ?_; (case ho => rfl); (case hg => rfl); (case hn => rfl); (case hr => first | (go_simp; done) | (go_simp; rfl)); intro w43 hw; have hg : wc.grownBy w43 (some go40) := (by rw [hw]; exact HP42.2); have hp_ : Kd.R (Kd.int .i64) 3 w43 w.heap.size (fun k_ => some k_ ≠ (.slice (some ad221) t209.length co12 : Value).ownBlock) (.slice (some ⟨go40, 0, none⟩) x9_2.length co41) y225 := (by rw [hw, Ny225.out]; exact HP42.1); clear HP42; have n0_ := Aside0.mk (Kd.V_afterv (v := (.slice (some ⟨go40, 0, none⟩) x9_2.length co41)) (v1 := (.slice (some ⟨go40, 0, none⟩) x9_2.length co41)) (ok := (fun k_ => some k_ ≠ (.slice (some ad221) t209.length co12 : Value).ownBlock)) (by (with_reducible repeat (first | apply Kd.V_alloc | apply Kd.V_drewN | apply Kd.V_drew)); exact HO_0.out) hg (.inl rfl)); have n1_ := Aside0.mk (Kd.R_after (v := (.slice (some ⟨go40, 0, none⟩) x9_2.length co41)) (v1 := (.slice (some ⟨go40, 0, none⟩) x9_2.length co41)) (ok := (fun _ => True)) (by (with_reducible repeat (first | apply Kd.R_alloc | apply Kd.R_drewN | apply Kd.R_drew)); exact Kd.R_mono HO_5.out (fun _ hk => ⟨trivial, hk⟩)) hg (.inl rfl)); have n2_ := Aside0.mk (hp_); have n3_ := Aside0.mk ((by rw [hw]; exact below_set (HB.out) GB40.out : Below w.heap.size w w43)); clear HO_0; clear HO_5; clear HO_9; clear HB; have HO_0 := n0_; have HO_5 := n1_; have HO_9 := n2_; have HB := n3_; clear n0_ n1_ n2_ n3_; clear hg hw hp_))
                                  repeat (go_quiet (first | ((with_reducible refine gate_store (t := 3) (p := 97) rfl ?_); (try (rw [drewN_self wc]; generalize hq_ : World.drewN wc _ = wc; have n0_ := Aside0.mk (Kd.V_at hq_ HO_0.out); have n1_ := Aside0.mk (Kd.R_at hq_ HO_5.out); have n2_ := Aside0.mk (Kd.R_at hq_ HO_9.out); have n3_ := Aside0.mk (below_at hq_ HB.out); clear hq_ HO_0 HO_5 HO_9 HB; have HO_0 := n0_; have HO_5 := n1_; have HO_9 := n2_; have HB := n3_; clear n0_ n1_ n2_ n3_; (try (have HP42 := Kd.R_putg HO_9.out ((rd t209 x10_2) : Int) (wrap64 (x10_2 + 1)))))); refine store_event (t := 3) (p := 97) (v := ?vo_w43) (w1 := (wc.setCell ⟨go40, ((rd t209 x10_2) : Int).toNat, none⟩ (.int .i64 (wrap64 (x10_2 + 1))))) ?hg ?ho ?hn ?hr ?_; (case ho => rfl); (case hg => rfl); (case hn => rfl); (case hr => first | (go_simp; done) | (go_simp; rfl)); intro w43 hw; have hg : wc.grownBy w43 (some go40) := (by rw [hw]; exact HP42.2); have hp_ : Kd.R (Kd.int .i64) 3 w43 w.heap.size (fun k_ => some k_ ≠ (.slice (some ad221) t209.length co12 : Value).ownBlock) (.slice (some ⟨go40, 0, none⟩) x9_2.length co41) y225 := (by rw [hw, Ny225.out]; exact HP42.1); clear HP42; have n0_ := Aside0.mk (Kd.V_afterv (v := (.slice (some ⟨go40, 0, none⟩) x9_2.length co41)) (v1 := (.slice (some ⟨go40, 0, none⟩) x9_2.length co41)) (ok := (fun k_ => some k_ ≠ (.slice (some ad221) t209.length co12 : Value).ownBlock)) (by (with_reducible repeat (first | apply Kd.V_alloc | apply Kd.V_drewN | apply Kd.V_drew)); exact HO_0.out) hg (.inl rfl)); have n1_ := Aside0.mk (Kd.R_after (v := (.slice (some ⟨go40, 0, none⟩) x9_2.length co41)) (v1 := (.slice (some ⟨go40, 0, none⟩) x9_2.length co41)) (ok := (fun _ => True)) (by (with_reducible repeat (first | apply Kd.R_alloc | apply Kd.R_drewN | apply Kd.R_drew)); exact Kd.R_mono HO_5.out (fun _ hk => ⟨trivial, hk⟩)) hg (.inl rfl)); have n2_ := Aside0.mk (hp_); have n3_ := Aside0.mk ((by rw [hw]; exact below_set (HB.out) GB40.out : Below w.heap.size w w43)); clear HO_0; clear HO_5; clear HO_9; clear HB; have HO_0 := n0_; have HO_5 := n1_; have HO_9 := n2_; have HB := n3_; clear n0_ n1_ n2_ n3_; clear hg hw hp_)); try go_wp2_with (first | ((with_reducible refine gate_store (t := 3) (p := 97) rfl ?_); (try (rw [drewN_self wc]; generalize hq_ : World.drewN wc _ = wc; have n0_ := Aside0.mk (Kd.V_at hq_ HO_0.out); have n1_ := Aside0.mk (Kd.R_at hq_ HO_5.out); have n2_ := Aside0.mk (Kd.R_at hq_ HO_9.out); have n3_ := Aside0.mk (below_at hq_ HB.out); clear hq_ HO_0 HO_5 HO_9 HB; have HO_0 := n0_; have HO_5 := n1_; have HO_9 := n2_; have HB := n3_; clear n0_ n1_ n2_ n3_; (try (have HP42 := Kd.R_putg HO_9.out ((rd t209 x10_2) : Int) (wrap64 (x10_2 + 1)))))); refine store_event (t := 3) (p := 97) (v := ?vo_w43) (w1 := (wc.setCell ⟨go40, ((rd t209 x10_2) : Int).toNat, none⟩ (.int .i64 (wrap64 (x10_2 + 1))))) ?hg ?ho ?hn ?hr ?_; (case ho => rfl); (case hg => rfl); (case hn => rfl); (case hr => first | (go_simp; done) | (go_simp; rfl)); intro w43 hw; have hg : wc.grownBy w43 (some go40) := (by rw [hw]; exact HP42.2); have hp_ : Kd.R (Kd.int .i64) 3 w43 w.heap.size (fun k_ => some k_ ≠ (.slice (some ad221) t209.length co12 : Value).ownBlock) (.slice (some ⟨go40, 0, none⟩) x9_2.length co41) y225 := (by rw [hw, Ny225.out]; exact HP42.1); clear HP42; have n0_ := Aside0.mk (Kd.V_afterv (v := (.slice (some ⟨go40, 0, none⟩) x9_2.length co41)) (v1 := (.slice (some ⟨go40, 0, none⟩) x9_2.length co41)) (ok := (fun k_ => some k_ ≠ (.slice (some ad221) t209.length co12 : Value).ownBlock)) (by (with_reducible repeat (first | apply Kd.V_alloc | apply Kd.V_drewN | apply Kd.V_drew)); exact HO_0.out) hg (.inl rfl)); have n1_ := Aside0.mk (Kd.R_after (v := (.slice (some ⟨go40, 0, none⟩) x9_2.length co41)) (v1 := (.slice (some ⟨go40, 0, none⟩) x9_2.length co41)) (ok := (fun _ => True)) (by (with_reducible repeat (first | apply Kd.R_alloc | apply Kd.R_drewN | apply Kd.R_drew)); exact Kd.R_mono HO_5.out (fun _ hk => ⟨trivial, hk⟩)) hg (.inl rfl)); have n2_ := Aside0.mk (hp_); have n3_ := Aside0.mk ((by rw [hw]; exact below_set (HB.out) GB40.out : Below w.heap.size w w43)); clear HO_0; clear HO_5; clear HO_9; clear HB; have HO_0 := n0_; have HO_5 := n1_; have HO_9 := n2_; have HB := n3_; clear n0_ n1_ n2_ n3_; clear hg hw hp_)))
                                  go_roundg kj27
                                  case measure => have := HK1.out; have := HK2.out; have := HJ27.out; omega
                                  case rel => exact ⟨(y225), (wrap64 (x10_2 + 1)), (by first | rfl | (simp; done) | (simp [*]; done)), H', ⟨by have := HK1.out; have := HK2.out; have := HJ27.out; omega⟩, ⟨by (with_reducible repeat (first | apply Kd.V_alloc | apply Kd.V_drewN | apply Kd.V_drew)); exact HO_0.out⟩, ⟨by (with_reducible repeat (first | apply Kd.R_alloc | apply Kd.R_drewN | apply Kd.R_drew)); exact Kd.R_mono HO_5.out (fun _ hk => hk.2)⟩, ⟨by (with_reducible repeat (first | apply Kd.R_alloc | apply Kd.R_drewN | apply Kd.R_drew)); exact HO_9.out⟩, ⟨by repeat (first | (with_reducible first | exact HB.out | apply below_alloc | apply pw_below_drewN | apply below_drew1) | exact HB.out)⟩⟩
                              · rw [if_neg c32] at H
                                exact absurd H (by simp)
                            · rw [if_neg c31] at H
                              exact absurd H (by simp)
                    · rw [if_neg c27] at H
                      exact absurd H (by simp)
                  · rw [if_neg c26] at H
                    have c26b0 : decide (x10_2 < (t209.length : Int)) = false := decide_eq_false c26
                    clear c26
                    obtain rfl := Option.some.inj H
                    go_wp2
                    repeat (go_quiet (fail); try go_wp2)
                    go_ret
                    exact ⟨by first | rfl | (simp [errW_none, errW_some] <;> rfl) | (simp [*, errW_none, errW_some] <;> rfl), by repeat (first | (with_reducible first | exact HB.out | apply below_alloc | apply pw_below_drewN | apply below_drew1) | exact HB.out)⟩
            · rw [if_neg c23] at H
              exact absurd H (by simp)
          · rw [if_neg c22] at H
            exact absurd H (by simp)
  · replace c4 := Bool.eq_false_iff.mpr c4
    subst c4
    have H1 : (some false) = some r := by rw [if_neg (show ¬ (false = true) by decide)] at H; exact H
    clear H
    have H := H1
    clear H1
    obtain rfl := Option.some.inj H
    go_enter Try.func4, Try.ntmps4
    go_wp2_with (first | (go_at_call 7; (with_reducible refine (escritoirelaw22_lives.calls k  false _ A3.out).mono ?_); rintro e w44 ⟨rfl, hb⟩; have n0_ := Aside0.mk (below_step (by repeat (first | (with_reducible first | exact HB.out | apply below_alloc | apply pw_below_drewN | apply below_drew1) | exact HB.out)) hb); clear HB; have HB := n0_; clear n0_; (try clear hb); (try clear hb2); (try clear hk); (try clear hi)))
    repeat (go_quiet (first | (go_at_call 7; (with_reducible refine (escritoirelaw22_lives.calls k  false _ A3.out).mono ?_); rintro e w44 ⟨rfl, hb⟩; have n0_ := Aside0.mk (below_step (by repeat (first | (with_reducible first | exact HB.out | apply below_alloc | apply pw_below_drewN | apply below_drew1) | exact HB.out)) hb); clear HB; have HB := n0_; clear n0_; (try clear hb); (try clear hb2); (try clear hk); (try clear hi))); try go_wp2_with (first | (go_at_call 7; (with_reducible refine (escritoirelaw22_lives.calls k  false _ A3.out).mono ?_); rintro e w44 ⟨rfl, hb⟩; have n0_ := Aside0.mk (below_step (by repeat (first | (with_reducible first | exact HB.out | apply below_alloc | apply pw_below_drewN | apply below_drew1) | exact HB.out)) hb); clear HB; have HB := n0_; clear n0_; (try clear hb); (try clear hb2); (try clear hk); (try clear hi))))
    go_ret
    exact ⟨by first | rfl | (simp [errW_none, errW_some] <;> rfl) | (simp [*, errW_none, errW_some] <;> rfl), by repeat (first | (with_reducible first | exact HB.out | apply below_alloc | apply pw_below_drewN | apply below_drew1) | exact HB.out)⟩

end Go.Proofs.Ytjigomnmfhbjmaa.Print
