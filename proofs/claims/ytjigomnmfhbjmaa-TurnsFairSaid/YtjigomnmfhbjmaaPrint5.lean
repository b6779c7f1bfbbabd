-- Made by wip/tools/wprint.py, a program of this workplace, over the translation. Lean checks it.
import Derived.Test.YtjigomnmfhbjmaaPrint0
namespace Go.Proofs.Ytjigomnmfhbjmaa.Print
open Go.RowKit Go.Proofs.YtjigomnmfhbjmaaW.PrintWords Go.Proofs.YtjigomnmfhbjmaaW.PrintLast Go.Proofs.YtjigomnmfhbjmaaW.PrintMore
attribute [local go_sem] max2_int min2_int max_two min_two max_three min_three max_four min_four   -- for this text's walks alone
set_option linter.unusedVariables false
set_option linter.unusedSimpArgs false

/-! ### escritoireref22_Next: function 9 -/
mutual
def escritoireref22_Next.j0 : Nat → Int → List Bool → Int → Bool → Option (Int × Bool)
  | 0, _, _, _, _ => none
  | k + 1, x0, x1, x6, x16 => if x16 = true then (escritoireref22_Next.j1 k (wrap64 (x6 - 1)) x1 x6) else (escritoireref22_Next.j1 k x0 x1 x6)
def escritoireref22_Next.j1 : Nat → Int → List Bool → Int → Option (Int × Bool)
  | 0, _, _, _ => none
  | k + 1, x0, x1, x6 => escritoireref22_Next.l0 k x0 x1 x6 1
def escritoireref22_Next.l0 : Nat → Int → List Bool → Int → Int → Option (Int × Bool)
  | 0, _, _, _, _ => none
  | k + 1, x0, x1, x6, x7 => if x7 ≤ x6 then (if x6 = 0 then (none) else (if 0 ≤ (Int.tmod (wrap64 (x0 + x7)) x6) then (if (Int.tmod (wrap64 (x0 + x7)) x6) < (x1.length : Int) then (if rdOf false x1 (Int.tmod (wrap64 (x0 + x7)) x6) = true then (some (Int.tmod (wrap64 (x0 + x7)) x6, true)) else (escritoireref22_Next.l0 k x0 x1 x6 (wrap64 (x7 + 1)))) else (none)) else (none))) else (some (0, false))
end
def escritoireref22_Next.f (k : Nat) (a0 : Int) (l1 : List Bool) : Option (Int × Bool) := if a0 < 0 then (escritoireref22_Next.j0 k a0 l1 (l1.length : Int) true) else (escritoireref22_Next.j0 k a0 l1 (l1.length : Int) (decide (a0 ≥ (l1.length : Int))))
theorem escritoireref22_Next.mono_l : ∀ k, (∀ y0 y1 y2 y3, LeO (escritoireref22_Next.j0 k y0 y1 y2 y3) (escritoireref22_Next.j0 (k + 1) y0 y1 y2 y3)) ∧ (∀ y0 y1 y2, LeO (escritoireref22_Next.j1 k y0 y1 y2) (escritoireref22_Next.j1 (k + 1) y0 y1 y2)) ∧ (∀ y0 y1 y2 y3, LeO (escritoireref22_Next.l0 k y0 y1 y2 y3) (escritoireref22_Next.l0 (k + 1) y0 y1 y2 y3))
  | 0 => ⟨fun _ _ _ _ r h => by simp [escritoireref22_Next.j0] at h, fun _ _ _ r h => by simp [escritoireref22_Next.j1] at h, fun _ _ _ _ r h => by simp [escritoireref22_Next.l0] at h⟩
  | k + 1 => by
    obtain ⟨ih0, ih1, ih2⟩ := escritoireref22_Next.mono_l k
    refine ⟨?_, ?_, ?_⟩
    · intro y0 y1 y2 y3
      unfold escritoireref22_Next.j0
      repeat' first
      | (with_reducible exact ih0 _ _ _ _)
      | (with_reducible exact ih1 _ _ _)
      | (with_reducible exact ih2 _ _ _ _)
      | (with_reducible exact LeO.refl _)
      | (with_reducible exact LeO.none _)
      | (with_reducible refine LeO.ite ?_ ?_)
      | (with_reducible refine LeO.bind ?_ (fun _ => ?_))
      | exact ih0 _ _ _ _
      | exact ih1 _ _ _
      | exact ih2 _ _ _ _
      | exact LeO.none _
      | refine LeO.ite ?_ ?_
      | refine LeO.bind ?_ (fun _ => ?_)
    · intro y0 y1 y2
      unfold escritoireref22_Next.j1
      repeat' first
      | (with_reducible exact ih0 _ _ _ _)
      | (with_reducible exact ih1 _ _ _)
      | (with_reducible exact ih2 _ _ _ _)
      | (with_reducible exact LeO.refl _)
      | (with_reducible exact LeO.none _)
      | (with_reducible refine LeO.ite ?_ ?_)
      | (with_reducible refine LeO.bind ?_ (fun _ => ?_))
      | exact ih0 _ _ _ _
      | exact ih1 _ _ _
      | exact ih2 _ _ _ _
      | exact LeO.none _
      | refine LeO.ite ?_ ?_
      | refine LeO.bind ?_ (fun _ => ?_)
    · intro y0 y1 y2 y3
      unfold escritoireref22_Next.l0
      repeat' first
      | (with_reducible exact ih0 _ _ _ _)
      | (with_reducible exact ih1 _ _ _)
      | (with_reducible exact ih2 _ _ _ _)
      | (with_reducible exact LeO.refl _)
      | (with_reducible exact LeO.none _)
      | (with_reducible refine LeO.ite ?_ ?_)
      | (with_reducible refine LeO.bind ?_ (fun _ => ?_))
      | exact ih0 _ _ _ _
      | exact ih1 _ _ _
      | exact ih2 _ _ _ _
      | exact LeO.none _
      | refine LeO.ite ?_ ?_
      | refine LeO.bind ?_ (fun _ => ?_)
theorem escritoireref22_Next.mono : ∀ a0 a1 k, LeO (escritoireref22_Next.f k a0 a1) (escritoireref22_Next.f (k + 1) a0 a1) := by
  intro a0 a1 k
  obtain ⟨ih0, ih1, ih2⟩ := escritoireref22_Next.mono_l k
  unfold escritoireref22_Next.f
  repeat' first
      | (with_reducible exact ih0 _ _ _ _)
      | (with_reducible exact ih1 _ _ _)
      | (with_reducible exact ih2 _ _ _ _)
      | (with_reducible exact LeO.refl _)
      | (with_reducible exact LeO.none _)
      | (with_reducible refine LeO.ite ?_ ?_)
      | (with_reducible refine LeO.bind ?_ (fun _ => ?_))
      | exact ih0 _ _ _ _
      | exact ih1 _ _ _
      | exact ih2 _ _ _ _
      | exact LeO.none _
      | refine LeO.ite ?_ ?_
      | refine LeO.bind ?_ (fun _ => ?_)
set_option maxHeartbeats 8000000 in
set_option maxRecDepth 100000 in
theorem escritoireref22_Next.calls (k : Nat) (a0 : Int) (A1 : Option Addr) (c1 : Nat) (l1 : List Bool) (r1 : Int) (r2 : Bool) (w : World) (hr1 : Kd.C Kd.bool w A1 l1.length l1) (hc1 : l1.length ≤ c1) (h : escritoireref22_Next.f k a0 l1 = some (r1, r2)) :
    Calls Try.prog 9 #[.int .i64 a0, .slice A1 l1.length c1] w fun e w' => e = .returned (.tuple #[.int .i64 r1, .bool r2]) ∧ Drawn0 w w' := by
  have HR1 := Aside0.mk hr1
  have HC1 := Aside0.mk hc1
  clear hr1 hc1
  have H : (if a0 < 0 then (escritoireref22_Next.j0 k a0 l1 (l1.length : Int) true) else (escritoireref22_Next.j0 k a0 l1 (l1.length : Int) (decide (a0 ≥ (l1.length : Int))))) = some (r1, r2) := h
  clear h
  have HC3 := Aside0.mk H
  clear H
  go_enter Try.func9, Try.ntmps9
  go_upto_region 2 with (fail)
  go_cut [16] (fun v16 wc => ∃ (kq : Nat) (x16_2 : Bool), v16 = .bool x16_2 ∧ Aside0 (escritoireref22_Next.j0 kq a0 l1 (l1.length : Int) x16_2 = some (r1, r2)) ∧ Aside0 (kq ≤ k) ∧ Drawn0 w wc)
  case first =>
    have H := HC3.out
    clear HC3
    by_cases c4 : a0 < 0
    · rw [if_pos c4] at H
      have c4b0 : decide (a0 < 0) = true := decide_eq_true c4
      clear c4
      (first | rw [c4b0] | (simp only [i64_w, i32_w]; rw [c4b0]) | skip)
      have H' := Aside0.mk H
      clear H
      go_wp2
      go_meet
      case rel => exact ⟨_, (true), (by first | rfl | (simp; done) | (simp [*]; done)), H', ⟨by first | omega | exact Nat.le_refl _⟩, by repeat (first | exact Drawn0.refl _ | apply Drawn0.step)⟩
    · rw [if_neg c4] at H
      have c4b0 : decide (a0 < 0) = false := decide_eq_false c4
      clear c4
      (first | rw [c4b0] | (simp only [i64_w, i32_w]; rw [c4b0]) | skip)
      have H' := Aside0.mk H
      clear H
      go_wp2
      go_meet
      case rel => exact ⟨_, (decide (a0 ≥ (l1.length : Int))), (by first | rfl | (simp; done) | (simp [*]; done)), H', ⟨by first | omega | exact Nat.le_refl _⟩, by repeat (first | exact Drawn0.refl _ | apply Drawn0.step)⟩
  case rest =>
    clear HC3
    try clear c1
    try clear p2
    try clear c4
    try clear c4b0
    obtain ⟨kq, x16_2, rfl, HA, HJ2, ⟨mc2, rfl⟩⟩ := hcut
    cases kq with
    | zero => exact absurd HA.out (by simp [escritoireref22_Next.j0])
    | succ kj2 =>
      have H := HA.out
      clear HA
      simp only [escritoireref22_Next.j0] at H
      have HC5 := Aside0.mk H
      clear H
      go_upto_if 16 with (fail)
      go_cut [0] (fun v0 wc => ∃ (kq : Nat) (x0_4 : Int), v0 = .int .i64 x0_4 ∧ Aside0 (escritoireref22_Next.j1 kq x0_4 l1 (l1.length : Int) = some (r1, r2)) ∧ Aside0 (kq ≤ kj2) ∧ Drawn0 w wc)
      case first =>
        have H := HC5.out
        clear HC5
        by_cases c6 : x16_2 = true
        · subst c6
          have H1 : (escritoireref22_Next.j1 kj2 (wrap64 ((l1.length : Int) - 1)) l1 (l1.length : Int)) = some (r1, r2) := by rw [if_pos rfl] at H; exact H
          clear H
          have H := H1
          clear H1
          have H' := Aside0.mk H
          clear H
          go_wp2
          go_meet
          case rel => exact ⟨_, (wrap64 ((l1.length : Int) - 1)), (by first | rfl | (simp; done) | (simp [*]; done)), H', ⟨by have := HJ2.out; first | omega | exact Nat.le_refl _⟩, by repeat (first | exact Drawn0.refl _ | apply Drawn0.step)⟩
        · replace c6 := Bool.eq_false_iff.mpr c6
          subst c6
          have H1 : (escritoireref22_Next.j1 kj2 a0 l1 (l1.length : Int)) = some (r1, r2) := by rw [if_neg (show ¬ (false = true) by decide)] at H; exact H
          clear H
          have H := H1
          clear H1
          have H' := Aside0.mk H
          clear H
          go_wp2
          go_meet
          case rel => exact ⟨_, (a0), (by first | rfl | (simp; done) | (simp [*]; done)), H', ⟨by have := HJ2.out; first | omega | exact Nat.le_refl _⟩, by repeat (first | exact Drawn0.refl _ | apply Drawn0.step)⟩
      case rest =>
        clear HC5
        try clear c1
        try clear c2
        try clear p2
        try clear c4
        try clear c4b0
        try clear c6
        try clear p6
        try clear p2
        obtain ⟨kq, x0_4, rfl, HA, HJ4, ⟨mc4, rfl⟩⟩ := hcut
        cases kq with
        | zero => exact absurd HA.out (by simp [escritoireref22_Next.j1])
        | succ kj4 =>
          have H := HA.out
          clear HA
          simp only [escritoireref22_Next.j1] at H
          have H' := Aside0.mk H
          clear H
          go_wp2
          go_loopg [7] kj4 (fun kq v7 w' => ∃ (x7_3 : Int), v7 = .int .i64 x7_3 ∧ Aside0 (escritoireref22_Next.l0 kq x0_4 l1 (l1.length : Int) x7_3 = some (r1, r2)) ∧ Aside0 (kq ≤ kj4) ∧ Drawn0 w w')
          case atStart => exact ⟨(1), (by first | rfl | (simp; done) | (simp [*]; done)), H', ⟨Nat.le_refl _⟩, by repeat (first | exact Drawn0.refl _ | apply Drawn0.step)⟩
          case round =>
            clear H'
            try clear c1
            try clear c2
            try clear p2
            try clear c4
            try clear c4b0
            try clear c6
            try clear p6
            try clear p2
            try clear p6
            obtain ⟨x7_3, rfl, HA, HK3, ⟨m3, rfl⟩⟩ := hrel
            cases gk with
            | zero => exact absurd HA.out (by simp [escritoireref22_Next.l0])
            | succ k3 =>
              have H := HA.out
              clear HA
              simp only [escritoireref22_Next.l0] at H
              by_cases c7 : x7_3 ≤ (l1.length : Int)
              · rw [if_pos c7] at H
                have c7b0 : decide (x7_3 ≤ (l1.length : Int)) = true := decide_eq_true c7
                clear c7
                by_cases c8 : (l1.length : Int) = 0
                · rw [if_pos c8] at H
                  exact absurd H (by simp)
                · rw [if_neg c8] at H
                  have c8b0 : ((l1.length : Int) == 0) = false := beq_eq_false_iff_ne.mpr c8
                  have c8b1 : ((l1.length : Int) != 0) = true := bne_iff_ne.mpr c8
                  have c8b2 : ¬ (l1 = []) := fun h_ => c8 (by rw [h_]; rfl)
                  obtain ⟨ji9, hji9⟩ : ∃ j_ : Int, (Int.tmod (wrap64 (x0_4 + x7_3)) (l1.length : Int)) = j_ := ⟨_, rfl⟩
                  replace H : (if 0 ≤ (ji9) then (if (ji9) < (l1.length : Int) then (if rdOf false l1 (ji9) = true then (some (ji9, true)) else (escritoireref22_Next.l0 k3 x0_4 l1 (l1.length : Int) (wrap64 (x7_3 + 1)))) else (none)) else (none)) = some (r1, r2) := by first | (rw [hji9] at H; exact H) | (simp only [hji9] at H ⊢; exact H)
                  by_cases c10 : 0 ≤ (ji9)
                  · rw [if_pos c10] at H
                    have c10b0 : decide (0 ≤ (ji9)) = true := decide_eq_true c10
                    clear c10
                    by_cases c11 : (ji9) < (l1.length : Int)
                    · rw [if_pos c11] at H
                      have c11b0 : decide ((ji9) < (l1.length : Int)) = true := decide_eq_true c11
                      clear c11
                      obtain ⟨bq12, hbq12⟩ : ∃ b_ : Bool, b_ = (rdOf false l1 (ji9)) := ⟨_, rfl⟩
                      replace H : (if bq12 = true then (some (ji9, true)) else (escritoireref22_Next.l0 k3 x0_4 l1 (l1.length : Int) (wrap64 (x7_3 + 1)))) = some (r1, r2) := by rw [← hbq12] at H; exact H
                      have Nbq12 := Aside0.mk hbq12
                      clear hbq12
                      by_cases c13 : bq12 = true
                      · subst c13
                        have H1 : (some (ji9, true)) = some (r1, r2) := by rw [if_pos rfl] at H; exact H
                        clear H
                        have H := H1
                        clear H1
                        simp only [Option.some.injEq, Prod.mk.injEq] at H
                        obtain ⟨rfl, rfl⟩ := H
                        have p169 : 0 ≤ ((ji9) : Int) := of_decide_eq_true (by first | (with_reducible assumption) | assumption)
                        have q169 : (ji9) < (l1.length : Int) := of_decide_eq_true (by first | (with_reducible assumption) | assumption)
                        obtain ⟨ad169, e169, hx169_0⟩ := Kd.at_bool HR1.out (ji9) p169 q169
                        (try rw [← Nbq12.out] at hx169_0)
                        cases e169
                        replace p169 := eq_true p169
                        replace q169 := eq_true q169
                        go_wp2
                        go_ret2
                        exact ⟨by first | rfl | (simp; done) | (simp only [← hji9] <;> (first | rfl | simp)) | (simp [*]; done), by repeat (first | exact Drawn0.refl _ | apply Drawn0.step)⟩
                      · replace c13 := Bool.eq_false_iff.mpr c13
                        subst c13
                        have H1 : (escritoireref22_Next.l0 k3 x0_4 l1 (l1.length : Int) (wrap64 (x7_3 + 1))) = some (r1, r2) := by rw [if_neg (show ¬ (false = true) by decide)] at H; exact H
                        clear H
                        have H := H1
                        clear H1
                        have H' := Aside0.mk H
                        clear H
                        have p169 : 0 ≤ ((ji9) : Int) := of_decide_eq_true (by first | (with_reducible assumption) | assumption)
                        have q169 : (ji9) < (l1.length : Int) := of_decide_eq_true (by first | (with_reducible assumption) | assumption)
                        obtain ⟨ad169, e169, hx169_0⟩ := Kd.at_bool HR1.out (ji9) p169 q169
                        (try rw [← Nbq12.out] at hx169_0)
                        cases e169
                        replace p169 := eq_true p169
                        replace q169 := eq_true q169
                        go_wp2
                        go_roundg k3
                        case measure => have := HJ2.out; have := HJ4.out; have := HK3.out; omega
                        case rel => exact ⟨(wrap64 (x7_3 + 1)), (by first | rfl | (simp; done) | (simp [*]; done)), H', ⟨by have := HJ2.out; have := HJ4.out; have := HK3.out; omega⟩, by repeat (first | exact Drawn0.refl _ | apply Drawn0.step)⟩
                    · rw [if_neg c11] at H
                      exact absurd H (by simp)
                  · rw [if_neg c10] at H
                    exact absurd H (by simp)
              · rw [if_neg c7] at H
                have c7b0 : decide (x7_3 ≤ (l1.length : Int)) = false := decide_eq_false c7
                clear c7
                simp only [Option.some.injEq, Prod.mk.injEq] at H
                obtain ⟨rfl, rfl⟩ := H
                go_wp2
                go_ret2
                exact ⟨by first | rfl | (simp; done) | (simp [*]; done), by repeat (first | exact Drawn0.refl _ | apply Drawn0.step)⟩

/-! ### escritoirelaw22_early: function 10 -/
def escritoirelaw22_early.f (l0 : List Int) : Option (List Int) := if 0 ≤ (mn (l0.length : Int) 12) then (if (mn (l0.length : Int) 12) ≤ (l0.length : Int) then (some (l0.take ((mn (l0.length : Int) 12) : Int).toNat)) else (none)) else (none)
set_option maxHeartbeats 8000000 in
set_option maxRecDepth 100000 in
theorem escritoirelaw22_early.calls (P0_ : Nat → Prop) (A0 : Option Addr) (c0 : Nat) (l0 : List Int) (r : List Int) (w : World) (hs0 : Kd.V (Kd.int .i64) 3 w w.heap.size (fun k_ => P0_ k_) (.slice A0 l0.length c0) l0) (h : escritoirelaw22_early.f l0 = some r) :
    Calls Try.prog 10 #[.slice A0 l0.length c0] w fun e w' => ∃ v0_ : Value, e = .returned (v0_) ∧ Kd.V (Kd.int .i64) 3 w' w.heap.size (fun k_ => (P0_ k_ ∨ w.heap.size ≤ k_)) v0_ r ∧ Below w.heap.size w w' := by
  have HO0 := Aside0.mk (show Kd.V (Kd.int .i64) 3 w w.heap.size (fun k_ => (P0_ k_ ∨ w.heap.size ≤ k_)) (.slice A0 l0.length c0) l0 from Kd.V_mono hs0 (fun k_ hk => .inl hk))
  have HB := Aside0.mk (Below.refl w.heap.size w)
  have H : (if 0 ≤ (mn (l0.length : Int) 12) then (if (mn (l0.length : Int) 12) ≤ (l0.length : Int) then (some (l0.take ((mn (l0.length : Int) 12) : Int).toNat)) else (none)) else (none)) = some r := h
  clear h
  obtain ⟨ji2, hji2⟩ : ∃ j_ : Int, (mn (l0.length : Int) 12) = j_ := ⟨_, rfl⟩
  replace H : (if 0 ≤ (ji2) then (if (ji2) ≤ (l0.length : Int) then (some (l0.take ((ji2) : Int).toNat)) else (none)) else (none)) = some r := by first | (rw [hji2] at H; exact H) | (simp only [hji2] at H ⊢; exact H)
  (try (have hji2h : ji2 ≤ 12 := by (rw [← hji2]; unfold mn; (repeat' split) <;> omega)))
  (try (have hji2g : ji2 ≤ 64 := by omega))
  (try (have hji2l : 0 ≤ ji2 := by (rw [← hji2]; unfold mn; (repeat' split) <;> omega)))
  (try (have hji2m : 0 ≤ ji2 := by omega))
  (try (have hji2x : max ji2 0 = ji2 := by omega))
  have hji2_ : (if 12 < (l0.length : Int) then 12 else (l0.length : Int)) = ji2 := hji2
  by_cases c3 : 0 ≤ (ji2)
  · rw [if_pos c3] at H
    have c3b0 := eq_true c3
    have c3b1 : decide (0 ≤ (ji2)) = true := decide_eq_true c3
    clear c3
    by_cases c4 : (ji2) ≤ (l0.length : Int)
    · rw [if_pos c4] at H
      have c4b0 := eq_true c4
      have c4b1 : decide ((ji2) ≤ (l0.length : Int)) = true := decide_eq_true c4
      clear c4
      obtain ⟨y170, hy170⟩ : ∃ y_ : List Int, y_ = (l0.take ((ji2) : Int).toNat) := ⟨_, rfl⟩
      replace H : (some y170) = some r := by first | (rw [hy170]; with_reducible exact H) | (have H2_ := (Option.bind_some _ _).symm.trans H; rw [hy170]; with_reducible exact H2_) | (have H2_ := (Option.bind_some _ _).symm.trans H; with_reducible exact H2_) | with_reducible exact H | (rw [hy170]; exact H) | exact H
      have Ny170 := Aside0.mk hy170
      clear hy170
      obtain rfl := Option.some.inj H
      have q5 : ((ji2) : Int) ≤ ((l0.length : Int) : Int) := of_decide_eq_true (by first | (with_reducible assumption) | assumption)
      obtain ⟨i05, hi05, _, hsz5, _⟩ := info_parts info3
      have hroom5 : l0.length ≤ c0 := (Kd.V_reads' HO0.out).2.1
      have hC5 : Kd.F (Kd.int .i64) _ _ A0 l0.length l0 := (Kd.V_at (base := w.heap.size) HO0.out).2.2
      have hcut5 := cut_to (P := Try.prog) 23 3 .i64 Try.underlying23 hi05 A0 l0.length c0 (ji2) (of_decide_eq_true (by first | (with_reducible assumption) | assumption)) q5 hroom5
      have hr5 := Kd.F_take (m := ((ji2) : Int).toNat) hC5 (by omega)
      have hy5 : y170.length = ((ji2) : Int).toNat := (by rw [Ny170.out, List.length_take]; omega)
      rw [← Ny170.out] at hr5
      rw [← hy5] at hcut5
      have HO174 := Aside0.mk (show Kd.V (Kd.int .i64) 3 _ w.heap.size _ (.slice A0 y170.length c0) y170 from Kd.V_mk (by omega) hr5)
      have HC174 := Aside0.mk (show y170.length ≤ c0 from by omega)
      clear hr5 hC5 hroom5 hi05 hsz5
      have KY5 := Aside0.mk hy5
      clear hy5
      replace q5 := eq_true q5
      go_enter Try.func10, Try.ntmps10
      go_wp2
      go_ret
      exact ⟨_, by first | rfl | (simp [errW_none, errW_some] <;> rfl) | (simp only [← hji2]; first | rfl | (simp [errW_none, errW_some] <;> rfl)) | (simp [*, errW_none, errW_some] <;> rfl), by (with_reducible repeat (first | apply Kd.V_alloc | apply Kd.V_drewN | apply Kd.V_drew)); exact HO174.out, by repeat (first | (with_reducible first | exact HB.out | apply below_alloc | apply pw_below_drewN | apply below_drew1) | exact HB.out)⟩
    · rw [if_neg c4] at H
      exact absurd H (by simp)
  · rw [if_neg c3] at H
    exact absurd H (by simp)

/-! ### escritoireref22_Plan: function 13 -/
mutual
def escritoireref22_Plan.l0 : Nat → Int → List Int → Int → Option (List Int)
  | 0, _, _, _ => none
  | k + 1, x1, x5, x6 => if x6 < (x5.length : Int) then (if 0 ≤ x6 then (escritoireref22_Plan.l0 k x1 (x5.set (x6 : Int).toNat (mn (mx (rd x5 x6) 0) 1000)) (wrap64 (x6 + 1))) else (none)) else (escritoireref22_Plan.l1 k (mn (mx x1 1) 1000) x5 ([] : List Int) 0)
def escritoireref22_Plan.l1 : Nat → Int → List Int → List Int → Int → Option (List Int)
  | 0, _, _, _, _ => none
  | k + 1, x1, x5, x7, x8 => if x8 < 1000 then (escritoireref22_Plan.l2 k x1 x5 x7 x8 0) else (some x7)
def escritoireref22_Plan.l2 : Nat → Int → List Int → List Int → Int → Int → Option (List Int)
  | 0, _, _, _, _, _ => none
  | k + 1, x1, x5, x7, x8, x9 => if x9 < (x5.length : Int) then (escritoireref22_Plan.l3 k x1 x5 x7 x8 x9 0) else (escritoireref22_Plan.l1 k x1 x5 x7 (wrap64 (x8 + 1)))
def escritoireref22_Plan.l3 : Nat → Int → List Int → List Int → Int → Int → Int → Option (List Int)
  | 0, _, _, _, _, _, _ => none
  | k + 1, x1, x5, x7, x8, x9, x10 => if x10 < x1 then (if 0 ≤ x9 then (if x9 < (x5.length : Int) then (if (rd x5 x9) > 0 then (if x7.length < 17592186044416 then (escritoireref22_Plan.l3 k x1 (x5.set (x9 : Int).toNat (wrap64 ((rd x5 x9) - 1))) (x7 ++ [x9]) x8 x9 (wrap64 (x10 + 1))) else (none)) else (escritoireref22_Plan.l2 k x1 x5 x7 x8 (wrap64 (x9 + 1)))) else (none)) else (none)) else (escritoireref22_Plan.l2 k x1 x5 x7 x8 (wrap64 (x9 + 1)))
end
def escritoireref22_Plan.f (k : Nat) (l0 : List Int) (a1 : Int) : Option (List Int) := if 0 ≤ (mn (l0.length : Int) 64) then (if (mn (l0.length : Int) 64) ≤ (l0.length : Int) then ((some (l0.take ((mn (l0.length : Int) 64) : Int).toNat : List Int)).bind fun y175 => (if ([] : List Int).length + y175.length < 17592186044416 then (escritoireref22_Plan.l0 k a1 (([] : List Int) ++ y175) 0) else (none))) else (none)) else (none)
theorem escritoireref22_Plan.mono_l : ∀ k, (∀ y0 y1 y2, LeO (escritoireref22_Plan.l0 k y0 y1 y2) (escritoireref22_Plan.l0 (k + 1) y0 y1 y2)) ∧ (∀ y0 y1 y2 y3, LeO (escritoireref22_Plan.l1 k y0 y1 y2 y3) (escritoireref22_Plan.l1 (k + 1) y0 y1 y2 y3)) ∧ (∀ y0 y1 y2 y3 y4, LeO (escritoireref22_Plan.l2 k y0 y1 y2 y3 y4) (escritoireref22_Plan.l2 (k + 1) y0 y1 y2 y3 y4)) ∧ (∀ y0 y1 y2 y3 y4 y5, LeO (escritoireref22_Plan.l3 k y0 y1 y2 y3 y4 y5) (escritoireref22_Plan.l3 (k + 1) y0 y1 y2 y3 y4 y5))
  | 0 => ⟨fun _ _ _ r h => by simp [escritoireref22_Plan.l0] at h, fun _ _ _ _ r h => by simp [escritoireref22_Plan.l1] at h, fun _ _ _ _ _ r h => by simp [escritoireref22_Plan.l2] at h, fun _ _ _ _ _ _ r h => by simp [escritoireref22_Plan.l3] at h⟩
  | k + 1 => by
    obtain ⟨ih0, ih1, ih2, ih3⟩ := escritoireref22_Plan.mono_l k
    refine ⟨?_, ?_, ?_, ?_⟩
    · intro y0 y1 y2
      unfold escritoireref22_Plan.l0
      repeat' first
      | (with_reducible exact ih0 _ _ _)
      | (with_reducible exact ih1 _ _ _ _)
      | (with_reducible exact ih2 _ _ _ _ _)
      | (with_reducible exact ih3 _ _ _ _ _ _)
      | (with_reducible exact LeO.refl _)
      | (with_reducible exact LeO.none _)
      | (with_reducible refine LeO.ite ?_ ?_)
      | (with_reducible refine LeO.bind ?_ (fun _ => ?_))
      | exact ih0 _ _ _
      | exact ih1 _ _ _ _
      | exact ih2 _ _ _ _ _
      | exact ih3 _ _ _ _ _ _
      | exact LeO.none _
      | refine LeO.ite ?_ ?_
      | refine LeO.bind ?_ (fun _ => ?_)
    · intro y0 y1 y2 y3
      unfold escritoireref22_Plan.l1
      repeat' first
      | (with_reducible exact ih0 _ _ _)
      | (with_reducible exact ih1 _ _ _ _)
      | (with_reducible exact ih2 _ _ _ _ _)
      | (with_reducible exact ih3 _ _ _ _ _ _)
      | (with_reducible exact LeO.refl _)
      | (with_reducible exact LeO.none _)
      | (with_reducible refine LeO.ite ?_ ?_)
      | (with_reducible refine LeO.bind ?_ (fun _ => ?_))
      | exact ih0 _ _ _
      | exact ih1 _ _ _ _
      | exact ih2 _ _ _ _ _
      | exact ih3 _ _ _ _ _ _
      | exact LeO.none _
      | refine LeO.ite ?_ ?_
      | refine LeO.bind ?_ (fun _ => ?_)
    · intro y0 y1 y2 y3 y4
      unfold escritoireref22_Plan.l2
      repeat' first
      | (with_reducible exact ih0 _ _ _)
      | (with_reducible exact ih1 _ _ _ _)
      | (with_reducible exact ih2 _ _ _ _ _)
      | (with_reducible exact ih3 _ _ _ _ _ _)
      | (with_reducible exact LeO.refl _)
      | (with_reducible exact LeO.none _)
      | (with_reducible refine LeO.ite ?_ ?_)
      | (with_reducible refine LeO.bind ?_ (fun _ => ?_))
      | exact ih0 _ _ _
      | exact ih1 _ _ _ _
      | exact ih2 _ _ _ _ _
      | exact ih3 _ _ _ _ _ _
      | exact LeO.none _
      | refine LeO.ite ?_ ?_
      | refine LeO.bind ?_ (fun _ => ?_)
    · intro y0 y1 y2 y3 y4 y5
      unfold escritoireref22_Plan.l3
      repeat' first
      | (with_reducible exact ih0 _ _ _)
      | (with_reducible exact ih1 _ _ _ _)
      | (with_reducible exact ih2 _ _ _ _ _)
      | (with_reducible exact ih3 _ _ _ _ _ _)
      | (with_reducible exact LeO.refl _)
      | (with_reducible exact LeO.none _)
      | (with_reducible refine LeO.ite ?_ ?_)
      | (with_reducible refine LeO.bind ?_ (fun _ => ?_))
      | exact ih0 _ _ _
      | exact ih1 _ _ _ _
      | exact ih2 _ _ _ _ _
      | exact ih3 _ _ _ _ _ _
      | exact LeO.none _
      | refine LeO.ite ?_ ?_
      | refine LeO.bind ?_ (fun _ => ?_)
theorem escritoireref22_Plan.mono : ∀ a0 a1 k, LeO (escritoireref22_Plan.f k a0 a1) (escritoireref22_Plan.f (k + 1) a0 a1) := by
  intro a0 a1 k
  obtain ⟨ih0, ih1, ih2, ih3⟩ := escritoireref22_Plan.mono_l k
  unfold escritoireref22_Plan.f
  repeat' first
      | (with_reducible exact ih0 _ _ _)
      | (with_reducible exact ih1 _ _ _ _)
      | (with_reducible exact ih2 _ _ _ _ _)
      | (with_reducible exact ih3 _ _ _ _ _ _)
      | (with_reducible exact LeO.refl _)
      | (with_reducible exact LeO.none _)
      | (with_reducible refine LeO.ite ?_ ?_)
      | (with_reducible refine LeO.bind ?_ (fun _ => ?_))
      | exact ih0 _ _ _
      | exact ih1 _ _ _ _
      | exact ih2 _ _ _ _ _
      | exact ih3 _ _ _ _ _ _
      | exact LeO.none _
      | refine LeO.ite ?_ ?_
      | refine LeO.bind ?_ (fun _ => ?_)
set_option maxHeartbeats 8000000 in
set_option maxRecDepth 100000 in
theorem escritoireref22_Plan.calls (k : Nat) (A0 : Option Addr) (c0 : Nat) (l0 : List Int) (a1 : Int) (r : List Int) (w : World) (hr0 : Kd.C (Kd.int .i64) w A0 l0.length l0) (hc0 : l0.length ≤ c0) (h : escritoireref22_Plan.f k l0 a1 = some r) :
    Calls Try.prog 13 #[.slice A0 l0.length c0, .int .i64 a1] w fun e w' => ∃ v0_ : Value, e = .returned (v0_) ∧ Kd.R (Kd.int .i64) 3 w' w.heap.size (fun _ => True) v0_ r ∧ Below w.heap.size w w' := by
  have HR0 := Aside0.mk hr0
  have HC0 := Aside0.mk hc0
  clear hr0 hc0
  have HB := Aside0.mk (Below.refl w.heap.size w)
  have H : (if 0 ≤ (mn (l0.length : Int) 64) then (if (mn (l0.length : Int) 64) ≤ (l0.length : Int) then ((some (l0.take ((mn (l0.length : Int) 64) : Int).toNat : List Int)).bind fun y175 => (if ([] : List Int).length + y175.length < 17592186044416 then (escritoireref22_Plan.l0 k a1 (([] : List Int) ++ y175) 0) else (none))) else (none)) else (none)) = some r := h
  clear h
  obtain ⟨ji3, hji3⟩ : ∃ j_ : Int, (mn (l0.length : Int) 64) = j_ := ⟨_, rfl⟩
  replace H : (if 0 ≤ (ji3) then (if (ji3) ≤ (l0.length : Int) then ((some (l0.take ((ji3) : Int).toNat : List Int)).bind fun y175 => (if ([] : List Int).length + y175.length < 17592186044416 then (escritoireref22_Plan.l0 k a1 (([] : List Int) ++ y175) 0) else (none))) else (none)) else (none)) = some r := by first | (rw [hji3] at H; exact H) | (simp only [hji3] at H ⊢; exact H)
  (try (have hji3h : ji3 ≤ 64 := by (rw [← hji3]; unfold mn; (repeat' split) <;> omega)))
  (try (have hji3g : ji3 ≤ 64 := by omega))
  (try (have hji3l : 0 ≤ ji3 := by (rw [← hji3]; unfold mn; (repeat' split) <;> omega)))
  (try (have hji3m : 0 ≤ ji3 := by omega))
  (try (have hji3x : max ji3 0 = ji3 := by omega))
  have hji3_ : (if 64 < (l0.length : Int) then 64 else (l0.length : Int)) = ji3 := hji3
  by_cases c4 : 0 ≤ (ji3)
  · rw [if_pos c4] at H
    have c4b0 := eq_true c4
    have c4b1 : decide (0 ≤ (ji3)) = true := decide_eq_true c4
    clear c4
    by_cases c5 : (ji3) ≤ (l0.length : Int)
    · rw [if_pos c5] at H
      have c5b0 := eq_true c5
      have c5b1 : decide ((ji3) ≤ (l0.length : Int)) = true := decide_eq_true c5
      clear c5
      obtain ⟨y175, hy175⟩ : ∃ y_ : List Int, y_ = (l0.take ((ji3) : Int).toNat) := ⟨_, rfl⟩
      replace H : (if ([] : List Int).length + y175.length < 17592186044416 then (escritoireref22_Plan.l0 k a1 (([] : List Int) ++ y175) 0) else (none)) = some r := by first | (rw [hy175]; with_reducible exact H) | (have H2_ := (Option.bind_some _ _).symm.trans H; rw [hy175]; with_reducible exact H2_) | (have H2_ := (Option.bind_some _ _).symm.trans H; with_reducible exact H2_) | with_reducible exact H | (rw [hy175]; exact H) | exact H
      have Ny175 := Aside0.mk hy175
      clear hy175
      by_cases c6 : ([] : List Int).length + y175.length < 17592186044416
      · rw [if_pos c6] at H
        have LMc6 := Aside0.mk c6
        clear c6
        obtain ⟨y179, hy179⟩ : ∃ y_ : List Int, y_ = (([] : List Int) ++ y175) := ⟨_, rfl⟩
        replace H : (escritoireref22_Plan.l0 k a1 y179 0) = some r := by first | (rw [hy179]; with_reducible exact H) | (have H2_ := (Option.bind_some _ _).symm.trans H; rw [hy179]; with_reducible exact H2_) | (have H2_ := (Option.bind_some _ _).symm.trans H; with_reducible exact H2_) | with_reducible exact H | (rw [hy179]; exact H) | exact H
        have Ny179 := Aside0.mk hy179
        clear hy179
        have H' := Aside0.mk H
        clear H
        have q7 : ((ji3) : Int) ≤ ((l0.length : Int) : Int) := of_decide_eq_true (by first | (with_reducible assumption) | assumption)
        obtain ⟨i07, hi07, _, hsz7, _⟩ := info_parts info3
        have hroom7 : l0.length ≤ c0 := HC0.out
        have hC7 : Kd.C (Kd.int .i64) _ A0 l0.length l0 := HR0.out
        have hcut7 := cut_to (P := Try.prog) 23 3 .i64 Try.underlying23 hi07 A0 l0.length c0 (ji3) (of_decide_eq_true (by first | (with_reducible assumption) | assumption)) q7 hroom7
        have hr7 := Kd.C_take (m := ((ji3) : Int).toNat) hC7 (by omega)
        have hy7 : y175.length = ((ji3) : Int).toNat := (by rw [Ny175.out, List.length_take]; omega)
        rw [← Ny175.out] at hr7
        rw [← hy7] at hcut7
        have HR178 := Aside0.mk hr7
        have HC178 := Aside0.mk (show y175.length ≤ c0 from by omega)
        clear hr7 hC7 hroom7 hi07 hsz7
        have KY7 := Aside0.mk hy7
        clear hy7
        replace q7 := eq_true q7
        go_enter Try.func13, Try.ntmps13
        go_wp2_with (first | ((with_reducible refine gate_builtin (b := .append) (xs := #[.const (.slice none 0 0), .tmp 15]) rfl ?_); at_builtin; refine Kd.R_append_rows (Kd.int .i64) (w0 := w) w.heap.size rfl (.const (.slice none 0 0)) (.tmp 15) 23 3 (.int .i64 0) 8 rfl Try.underlying23 info3 rfl (by decide) (by omega) (.slice none 0 0) ([] : List Int) y175 _ _ _ (fun _ => True) (fun _ => False) rfl rfl ?aO ?aR (fun _ _ h => h) (fun _ h => h.elim) ?aF ?aB ?aS ?aL ?_; (case aR => repeat (first | exact HR178.out | (with_reducible refine Kd.C_alloc ?_ _) | (with_reducible refine Kd.C_drewN ?_ _) | (with_reducible refine Kd.C_drew ?_))); (case aB => exact (by repeat (first | (with_reducible first | exact HB.out | apply below_alloc | apply pw_below_drewN | apply below_drew1) | exact HB.out))); (case aF => exact (fun _ _ => trivial)); (case aO => exact ((Kd.R_nil _ _ _ _ (fun _ => True)))); (case aS => exact (below_size (by repeat (first | (with_reducible first | exact HB.out | apply below_alloc | apply pw_below_drewN | apply below_drew1) | exact HB.out)))); (case aL => have := LMc6.out; omega); intro v180 w8 ho hb hg hat; rw [← Ny179.out] at ho; have n0_ := Aside0.mk (hb); have n1_ := Aside0.mk (ho); clear HB; have HB := n0_; have HO181 := n1_; clear n0_ n1_; clear ho hb hg hat))
        go_loopg [6] k (fun kq v6 w' => ∃ (x5_1 : List Int) (x6_1 : Int), v6 = .int .i64 x6_1 ∧ Aside0 (escritoireref22_Plan.l0 kq a1 x5_1 x6_1 = some r) ∧ Aside0 (kq ≤ k) ∧ Aside0 (Kd.R (Kd.int .i64) 3 w' w.heap.size (fun _ => True) v180 x5_1) ∧ Aside0 (Below w.heap.size w w'))
        case atStart => exact ⟨(y179), (0), (by first | rfl | (simp; done) | (simp [*]; done)), H', ⟨Nat.le_refl _⟩, ⟨by (with_reducible repeat (first | apply Kd.R_alloc | apply Kd.R_drewN | apply Kd.R_drew)); exact HO181.out⟩, ⟨by repeat (first | (with_reducible first | exact HB.out | apply below_alloc | apply pw_below_drewN | apply below_drew1) | exact HB.out)⟩⟩
        case round =>
          clear H'
          try clear c1
          try clear p2
          try clear c4
          try clear c4b0
          try clear c4b1
          try clear c5
          try clear c5b0
          try clear c5b1
          try clear c6
          try clear q7
          try clear q7
          obtain ⟨x5_1, x6_1, rfl, HA, HK1, HO_5, HB⟩ := hrel
          cases gk with
          | zero => exact absurd HA.out (by simp [escritoireref22_Plan.l0])
          | succ k1 =>
            have H := HA.out
            clear HA
            simp only [escritoireref22_Plan.l0] at H
            by_cases c9 : x6_1 < (x5_1.length : Int)
            · rw [if_pos c9] at H
              have c9b0 : decide (x6_1 < (x5_1.length : Int)) = true := decide_eq_true c9
              clear c9
              by_cases c10 : 0 ≤ x6_1
              · rw [if_pos c10] at H
                have c10b0 : decide (0 ≤ x6_1) = true := decide_eq_true c10
                clear c10
                obtain ⟨ji11, hji11⟩ : ∃ j_ : Int, (mx (rd x5_1 x6_1) 0) = j_ := ⟨_, rfl⟩
                replace H : (escritoireref22_Plan.l0 k1 a1 (x5_1.set (x6_1 : Int).toNat (mn (ji11) 1000)) (wrap64 (x6_1 + 1))) = some r := by first | (rw [hji11] at H; exact H) | (simp only [hji11] at H ⊢; exact H)
                have hji11_ : (if (rd x5_1 x6_1) < 0 then 0 else (rd x5_1 x6_1)) = ji11 := hji11
                obtain ⟨ji12, hji12⟩ : ∃ j_ : Int, (mn (ji11) 1000) = j_ := ⟨_, rfl⟩
                replace H : (escritoireref22_Plan.l0 k1 a1 (x5_1.set (x6_1 : Int).toNat (ji12)) (wrap64 (x6_1 + 1))) = some r := by first | (rw [hji12] at H; exact H) | (simp only [hji12] at H ⊢; exact H)
                have hji12_ : (if 1000 < (ji11) then 1000 else (ji11)) = ji12 := hji12
                obtain ⟨y183, hy183⟩ : ∃ y_ : List Int, y_ = (x5_1.set (x6_1 : Int).toNat (ji12)) := ⟨_, rfl⟩
                replace H : (escritoireref22_Plan.l0 k1 a1 y183 (wrap64 (x6_1 + 1))) = some r := by first | (rw [hy183]; with_reducible exact H) | (have H2_ := (Option.bind_some _ _).symm.trans H; rw [hy183]; with_reducible exact H2_) | (have H2_ := (Option.bind_some _ _).symm.trans H; with_reducible exact H2_) | with_reducible exact H | (rw [hy183]; exact H) | exact H
                have Ny183 := Aside0.mk hy183
                clear hy183
                have H' := Aside0.mk H
                clear H
                obtain ⟨Ao14, co14, eo14⟩ := Kd.R_slice HO_5.out
                subst eo14
                have p182 : 0 ≤ (x6_1 : Int) := of_decide_eq_true (by first | (with_reducible assumption) | assumption)
                have q182 : x6_1 < (x5_1.length : Int) := of_decide_eq_true (by first | (with_reducible assumption) | assumption)
                obtain ⟨ad182, e182, hx182_0⟩ := Kd.at_int (Kd.R_reads' HO_5.out).2.2 x6_1 p182 q182
                cases e182
                replace p182 := eq_true p182
                replace q182 := eq_true q182
                have p13 : 0 ≤ (x6_1 : Int) := of_decide_eq_true (by first | (with_reducible assumption) | assumption)
                have q13 : (x6_1 : Int) < ((x5_1.length : Int) : Int) := of_decide_eq_true (by first | (with_reducible assumption) | assumption)
                obtain ⟨go13, co13, eo13, gb13, gl13, cl13, HG13⟩ := Kd.R_form HO_5.out (by omega)
                (first | cases eo13 | (injection eo13 with ea_ en_ ec_; (first | subst ea_ | (injection ea_ with ea_; subst ea_)); subst ec_; clear en_))
                have GB13 := Aside0.mk gb13
                have GG13 := Aside0.mk HG13
                clear gb13 gl13 HG13
                (first | simp only [add_plain] at hx182_0 | skip)
                obtain ⟨hx13_0, hf13_0⟩ := Kd.R_celln 0 HO_5.out (x6_1 : Int) p13 q13
                replace p13 := eq_true p13
                replace q13 := eq_true q13
                have HP15 := Kd.R_putg HO_5.out (x6_1 : Int) ji12
                go_wp2_with (first | ((with_reducible refine gate_store (t := 3) (p := 31) rfl ?_); refine store_event (t := 3) (p := 31) (v := ?vo_w16) (w1 := (wr.setCell ⟨go13, (x6_1 : Int).toNat, none⟩ (.int .i64 ji12))) ?hg ?ho ?hn ?hr ?_; (case ho => rfl); (case hg => rfl); (case hn => rfl); (case hr => first | (go_simp; done) | (go_simp; rfl)); intro w16 hw; have hg : wr.grownBy w16 (some go13) := (by rw [hw]; exact HP15.2); have hp_ : Kd.R (Kd.int .i64) 3 w16 w.heap.size (fun _ => True) (.slice (some ⟨go13, 0, none⟩) x5_1.length co14) y183 := (by rw [hw, Ny183.out]; exact HP15.1); clear HP15; have n0_ := Aside0.mk (hp_); have n1_ := Aside0.mk ((by rw [hw]; exact below_set (HB.out) GB13.out : Below w.heap.size w w16)); clear HO_5; clear HB; have HO_5 := n0_; have HB := n1_; clear n0_ n1_; clear hg hw hp_))
                go_roundg k1
                case measure => have := HK1.out; omega
                case rel => exact ⟨(y183), (wrap64 (x6_1 + 1)), (by first | rfl | (simp; done) | (simp [*]; done)), H', ⟨by have := HK1.out; omega⟩, ⟨by (with_reducible repeat (first | apply Kd.R_alloc | apply Kd.R_drewN | apply Kd.R_drew)); exact HO_5.out⟩, ⟨by repeat (first | (with_reducible first | exact HB.out | apply below_alloc | apply pw_below_drewN | apply below_drew1) | exact HB.out)⟩⟩
              · rw [if_neg c10] at H
                exact absurd H (by simp)
            · rw [if_neg c9] at H
              have c9b0 : decide (x6_1 < (x5_1.length : Int)) = false := decide_eq_false c9
              clear c9
              obtain ⟨ji17, hji17⟩ : ∃ j_ : Int, (mx a1 1) = j_ := ⟨_, rfl⟩
              replace H : (escritoireref22_Plan.l1 k1 (mn (ji17) 1000) x5_1 ([] : List Int) 0) = some r := by first | (rw [hji17] at H; exact H) | (simp only [hji17] at H ⊢; exact H)
              (try (have hji17l : 1 ≤ ji17 := by (rw [← hji17]; unfold mx; (repeat' split) <;> omega)))
              (try (have hji17m : 0 ≤ ji17 := by omega))
              (try (have hji17x : max ji17 0 = ji17 := by omega))
              have hji17_ : (if a1 < 1 then 1 else a1) = ji17 := hji17
              obtain ⟨ji18, hji18⟩ : ∃ j_ : Int, (mn (ji17) 1000) = j_ := ⟨_, rfl⟩
              replace H : (escritoireref22_Plan.l1 k1 ji18 x5_1 ([] : List Int) 0) = some r := by first | (rw [hji18] at H; exact H) | (simp only [hji18] at H ⊢; exact H)
              have hji18_ : (if 1000 < (ji17) then 1000 else (ji17)) = ji18 := hji18
              have H' := Aside0.mk H
              clear H
              obtain ⟨Ao19, co19, eo19⟩ := Kd.R_slice HO_5.out
              subst eo19
              go_wp2
              go_loopg [7, 8] k1 (fun kq v7 v8 w' => ∃ (x5_2 : List Int) (x7_2 : List Int) (x8_2 : Int), v8 = .int .i64 x8_2 ∧ Aside0 (escritoireref22_Plan.l1 kq ji18 x5_2 x7_2 x8_2 = some r) ∧ Aside0 (kq ≤ k1) ∧ Aside0 (Kd.R (Kd.int .i64) 3 w' w.heap.size (fun k_ => some k_ ≠ (v7 : Value).ownBlock) (.slice Ao19 x5_1.length co19) x5_2) ∧ Aside0 (Kd.R (Kd.int .i64) 3 w' w.heap.size (fun k_ => some k_ ≠ ((.slice Ao19 x5_1.length co19) : Value).ownBlock) v7 x7_2) ∧ Aside0 (Below w.heap.size w w'))
              case atStart => exact ⟨(x5_1), (([] : List Int)), (0), (by first | rfl | (simp; done) | (simp [*]; done)), H', ⟨Nat.le_refl _⟩, ⟨by (with_reducible repeat (first | apply Kd.R_alloc | apply Kd.R_drewN | apply Kd.R_drew)); exact Kd.R_mono HO_5.out (fun _ hk => (by simp [Value.ownBlock]))⟩, ⟨by first | exact Kd.R_nil _ _ _ _ _ | exact Kd.N_nil _ _ _ _ _ | exact Kd.V_nil _ _ _ _ _ | exact Kd.Q_nil _ _ _ _ _ | exact Kd.S_nil _ _ _ _ _⟩, ⟨by repeat (first | (with_reducible first | exact HB.out | apply below_alloc | apply pw_below_drewN | apply below_drew1) | exact HB.out)⟩⟩
              case round =>
                clear H'
                try clear c1
                try clear p1
                try clear q1
                try clear hx1
                try clear p2
                try clear c4
                try clear c4b0
                try clear c4b1
                try clear c5
                try clear c5b0
                try clear c5b1
                try clear c6
                try clear p6
                try clear q7
                try clear c9
                try clear c9b0
                try clear c10
                try clear c10b0
                try clear c13
                try clear p13
                try clear q13
                try clear hx13
                try clear hf13
                try clear p18
                try clear q18
                try clear hx18
                try clear hx13_0
                try clear hx182_0
                try clear p13
                try clear p182
                try clear p2
                try clear q13
                try clear q182
                try clear q7
                obtain ⟨x5_2, x7_2, x8_2, rfl, HA, HK2, HO_5, HO_7, HB⟩ := hrel
                have hl5_2 := (Kd.R_reads' HO_5.out).1
                rw [hl5_2] at HO_5
                (try simp only [hl5_2])
                (try simp only [hl5_2] at HO_7)
                cases gk with
                | zero => exact absurd HA.out (by simp [escritoireref22_Plan.l1])
                | succ k2 =>
                  have H := HA.out
                  clear HA
                  simp only [escritoireref22_Plan.l1] at H
                  by_cases c20 : x8_2 < 1000
                  · rw [if_pos c20] at H
                    have c20b0 : decide (x8_2 < 1000) = true := decide_eq_true c20
                    clear c20
                    have H' := Aside0.mk H
                    clear H
                    go_wp2
                    go_loopg [7, 9] k2 (fun kq v7 v9 w' => ∃ (x5_3 : List Int) (x7_3 : List Int) (x9_3 : Int), v9 = .int .i64 x9_3 ∧ Aside0 (escritoireref22_Plan.l2 kq ji18 x5_3 x7_3 x8_2 x9_3 = some r) ∧ Aside0 (kq ≤ k2) ∧ Aside0 (Kd.R (Kd.int .i64) 3 w' w.heap.size (fun k_ => some k_ ≠ (v7 : Value).ownBlock) (.slice Ao19 x5_2.length co19) x5_3) ∧ Aside0 (Kd.R (Kd.int .i64) 3 w' w.heap.size (fun k_ => some k_ ≠ ((.slice Ao19 x5_2.length co19) : Value).ownBlock) v7 x7_3) ∧ Aside0 (Below w.heap.size w w'))
                    case atStart => exact ⟨(x5_2), (x7_2), (0), (by first | rfl | (simp; done) | (simp [*]; done)), H', ⟨Nat.le_refl _⟩, ⟨by (try simp only [hl5_2]); (with_reducible repeat (first | apply Kd.R_alloc | apply Kd.R_drewN | apply Kd.R_drew)); exact HO_5.out⟩, ⟨by (try simp only [hl5_2]); (with_reducible repeat (first | apply Kd.R_alloc | apply Kd.R_drewN | apply Kd.R_drew)); exact HO_7.out⟩, ⟨by repeat (first | (with_reducible first | exact HB.out | apply below_alloc | apply pw_below_drewN | apply below_drew1) | exact HB.out)⟩⟩
                    case round =>
                      clear H'
                      try clear c1
                      try clear p1
                      try clear q1
                      try clear hx1
                      try clear c2
                      try clear p2
                      try clear c4
                      try clear c4b0
                      try clear c4b1
                      try clear c5
                      try clear c5b0
                      try clear c5b1
                      try clear c6
                      try clear p6
                      try clear q7
                      try clear c9
                      try clear c9b0
                      try clear c10
                      try clear c10b0
                      try clear c13
                      try clear p13
                      try clear q13
                      try clear hx13
                      try clear hf13
                      try clear p18
                      try clear q18
                      try clear hx18
                      try clear c20
                      try clear c20b0
                      try clear hx13_0
                      try clear hx182_0
                      try clear p1
                      try clear p13
                      try clear p18
                      try clear p182
                      try clear p2
                      try clear p6
                      try clear q1
                      try clear q13
                      try clear q18
                      try clear q182
                      try clear q7
                      obtain ⟨x5_3, x7_3, x9_3, rfl, HA, HK3, HO_5, HO_7, HB⟩ := hrel
                      have hl5_3 := (Kd.R_reads' HO_5.out).1
                      rw [hl5_3] at HO_5
                      (try simp only [hl5_3])
                      (try simp only [hl5_3] at HO_7)
                      cases gk with
                      | zero => exact absurd HA.out (by simp [escritoireref22_Plan.l2])
                      | succ k3 =>
                        have H := HA.out
                        clear HA
                        simp only [escritoireref22_Plan.l2] at H
                        by_cases c21 : x9_3 < (x5_3.length : Int)
                        · rw [if_pos c21] at H
                          have c21b0 : decide (x9_3 < (x5_3.length : Int)) = true := decide_eq_true c21
                          (try (have c21b2 := c21b0; simp only [hl5_2] at c21b2))
                          (try (have c21b2 := c21b0; simp only [hl5_3] at c21b2))
                          clear c21
                          have H' := Aside0.mk H
                          clear H
                          go_wp2
                          go_loopg [7, 10] k3 (fun kq v7 v10 w' => ∃ (x5_4 : List Int) (x7_4 : List Int) (x10_4 : Int), v10 = .int .i64 x10_4 ∧ Aside0 (escritoireref22_Plan.l3 kq ji18 x5_4 x7_4 x8_2 x9_3 x10_4 = some r) ∧ Aside0 (kq ≤ k3) ∧ Aside0 (Kd.R (Kd.int .i64) 3 w' w.heap.size (fun k_ => some k_ ≠ (v7 : Value).ownBlock) (.slice Ao19 x5_3.length co19) x5_4) ∧ Aside0 (Kd.R (Kd.int .i64) 3 w' w.heap.size (fun k_ => some k_ ≠ ((.slice Ao19 x5_3.length co19) : Value).ownBlock) v7 x7_4) ∧ Aside0 (Below w.heap.size w w'))
                          case atStart => exact ⟨(x5_3), (x7_3), (0), (by first | rfl | (simp; done) | (simp [*]; done)), H', ⟨Nat.le_refl _⟩, ⟨by (try simp only [hl5_2]); (try simp only [hl5_3]); (with_reducible repeat (first | apply Kd.R_alloc | apply Kd.R_drewN | apply Kd.R_drew)); exact HO_5.out⟩, ⟨by (try simp only [hl5_2]); (try simp only [hl5_3]); (with_reducible repeat (first | apply Kd.R_alloc | apply Kd.R_drewN | apply Kd.R_drew)); exact HO_7.out⟩, ⟨by repeat (first | (with_reducible first | exact HB.out | apply below_alloc | apply pw_below_drewN | apply below_drew1) | exact HB.out)⟩⟩
                          case round =>
                            clear H'
                            try clear c1
                            try clear p1
                            try clear q1
                            try clear hx1
                            try clear c2
                            try clear p2
                            try clear c4
                            try clear c4b0
                            try clear c4b1
                            try clear c5
                            try clear c5b0
                            try clear c5b1
                            try clear c6
                            try clear p6
                            try clear q7
                            try clear c9
                            try clear c9b0
                            try clear c10
                            try clear c10b0
                            try clear c13
                            try clear p13
                            try clear q13
                            try clear hx13
                            try clear hf13
                            try clear p18
                            try clear q18
                            try clear hx18
                            try clear c20
                            try clear c20b0
                            try clear c21
                            try clear c21b0
                            try clear c21b2
                            try clear hx13_0
                            try clear hx182_0
                            try clear p1
                            try clear p13
                            try clear p18
                            try clear p182
                            try clear p2
                            try clear p6
                            try clear q1
                            try clear q13
                            try clear q18
                            try clear q182
                            try clear q7
                            obtain ⟨x5_4, x7_4, x10_4, rfl, HA, HK4, HO_5, HO_7, HB⟩ := hrel
                            have hl5_4 := (Kd.R_reads' HO_5.out).1
                            rw [hl5_4] at HO_5
                            (try simp only [hl5_4])
                            (try simp only [hl5_4] at HO_7)
                            cases gk with
                            | zero => exact absurd HA.out (by simp [escritoireref22_Plan.l3])
                            | succ k4 =>
                              have H := HA.out
                              clear HA
                              simp only [escritoireref22_Plan.l3] at H
                              by_cases c22 : x10_4 < ji18
                              · rw [if_pos c22] at H
                                have c22b0 : decide (x10_4 < ji18) = true := decide_eq_true c22
                                clear c22
                                by_cases c23 : 0 ≤ x9_3
                                · rw [if_pos c23] at H
                                  have c23b0 : decide (0 ≤ x9_3) = true := decide_eq_true c23
                                  clear c23
                                  by_cases c24 : x9_3 < (x5_4.length : Int)
                                  · rw [if_pos c24] at H
                                    have c24b0 : decide (x9_3 < (x5_4.length : Int)) = true := decide_eq_true c24
                                    (try (have c24b2 := c24b0; simp only [hl5_2] at c24b2))
                                    (try (have c24b2 := c24b0; simp only [hl5_3] at c24b2))
                                    (try (have c24b2 := c24b0; simp only [hl5_4] at c24b2))
                                    clear c24
                                    by_cases c25 : (rd x5_4 x9_3) > 0
                                    · rw [if_pos c25] at H
                                      have c25b0 : decide (0 < (rd x5_4 x9_3)) = true := decide_eq_true c25
                                      clear c25
                                      by_cases c26 : x7_4.length < 17592186044416
                                      · rw [if_pos c26] at H
                                        have LMc26 := Aside0.mk c26
                                        clear c26
                                        obtain ⟨y185, hy185⟩ : ∃ y_ : List Int, y_ = (x7_4 ++ [x9_3]) := ⟨_, rfl⟩
                                        replace H : (escritoireref22_Plan.l3 k4 ji18 (x5_4.set (x9_3 : Int).toNat (wrap64 ((rd x5_4 x9_3) - 1))) y185 x8_2 x9_3 (wrap64 (x10_4 + 1))) = some r := by first | (rw [hy185]; with_reducible exact H) | (have H2_ := (Option.bind_some _ _).symm.trans H; rw [hy185]; with_reducible exact H2_) | (have H2_ := (Option.bind_some _ _).symm.trans H; with_reducible exact H2_) | with_reducible exact H | (rw [hy185]; exact H) | exact H
                                        have Ny185 := Aside0.mk hy185
                                        clear hy185
                                        obtain ⟨y189, hy189⟩ : ∃ y_ : List Int, y_ = (x5_4.set (x9_3 : Int).toNat (wrap64 ((rd x5_4 x9_3) - 1))) := ⟨_, rfl⟩
                                        replace H : (escritoireref22_Plan.l3 k4 ji18 y189 y185 x8_2 x9_3 (wrap64 (x10_4 + 1))) = some r := by first | (rw [hy189]; with_reducible exact H) | (have H2_ := (Option.bind_some _ _).symm.trans H; rw [hy189]; with_reducible exact H2_) | (have H2_ := (Option.bind_some _ _).symm.trans H; with_reducible exact H2_) | with_reducible exact H | (rw [hy189]; exact H) | exact H
                                        have Ny189 := Aside0.mk hy189
                                        clear hy189
                                        have H' := Aside0.mk H
                                        clear H
                                        have p184 : 0 ≤ (x9_3 : Int) := of_decide_eq_true (by first | (with_reducible assumption) | assumption)
                                        have q184 : x9_3 < (x5_4.length : Int) := of_decide_eq_true (by first | (with_reducible assumption) | assumption)
                                        obtain ⟨ad184, e184, hx184_0⟩ := Kd.at_int (Kd.R_reads' HO_5.out).2.2 x9_3 p184 q184
                                        cases e184
                                        replace p184 := eq_true p184
                                        replace q184 := eq_true q184
                                        go_wp2_with (first | ((with_reducible refine gate_builtin (b := .append) (xs := #[.tmp 57, .tmp 59]) rfl ?_); at_builtin; refine Kd.R_append (Kd.int .i64) (w0 := w) w.heap.size rfl (.tmp 57) (.tmp 59) 23 3 (.int .i64 0) 8 rfl Try.underlying23 info3 rfl (by decide) (by omega) u7 x7_4 x9_3 [.int .i64 x9_3] (fun k_ => some k_ ≠ (.slice (some ad184) x5_4.length co19 : Value).ownBlock) (fun _ => False) rfl rfl ?aP (fun _ hk => hk.elim) ?aF ?aO ?aB ?aS ?aL ?_; (case aP => exact rfl); (case aB => exact (by repeat (first | (with_reducible first | exact HB.out | apply below_alloc | apply pw_below_drewN | apply below_drew1) | exact HB.out))); (case aF => exact (fun k_ hk => Kd.fresh' (Kd.R_lt (by (with_reducible repeat (first | apply Kd.R_alloc | apply Kd.R_drewN | apply Kd.R_drew)); exact HO_5.out)) k_ hk)); (case aO => exact (by (with_reducible repeat (first | apply Kd.R_alloc | apply Kd.R_drewN | apply Kd.R_drew)); exact HO_7.out)); (case aS => exact (below_size (by repeat (first | (with_reducible first | exact HB.out | apply below_alloc | apply pw_below_drewN | apply below_drew1) | exact HB.out)))); (case aL => have := LMc26.out; omega); intro v186 w28 ho hb hg hat; rw [← Ny185.out] at ho; have n0_ := Aside0.mk (Kd.R_after (ok := (fun _ => True)) (by (with_reducible repeat (first | apply Kd.R_alloc | apply Kd.R_drewN | apply Kd.R_drew)); exact Kd.R_mono HO_5.out (fun _ hk => ⟨trivial, hk⟩)) hg hat); have n1_ := Aside0.mk (hb); have n2_ := Aside0.mk (ho); clear HO_5; clear HB; clear HO_7; have HO_5 := n0_; have HB := n1_; have HO187 := n2_; clear n0_ n1_ n2_; clear ho hb hg hat; have p188 : 0 ≤ (x9_3 : Int) := of_decide_eq_true (by first | (with_reducible assumption) | assumption); have q188 : x9_3 < (x5_4.length : Int) := of_decide_eq_true (by first | (with_reducible assumption) | assumption); obtain ⟨ad188, e188, hx188_0⟩ := Kd.at_int (Kd.R_reads' HO_5.out).2.2 x9_3 p188 q188; obtain rfl : ad184 = ad188 := (by injection e188); replace p188 := eq_true p188; replace q188 := eq_true q188; have p27 : 0 ≤ (x9_3 : Int) := of_decide_eq_true (by first | (with_reducible assumption) | assumption); have q27 : (x9_3 : Int) < ((x5_4.length : Int) : Int) := of_decide_eq_true (by first | (with_reducible assumption) | assumption); obtain ⟨go27, co27, eo27, gb27, gl27, cl27, HG27⟩ := Kd.R_form HO_5.out (by omega); (first | cases eo27 | (injection eo27 with ea_ en_ ec_; (first | subst ea_ | (injection ea_ with ea_; subst ea_)); subst ec_; clear en_)); have GB27 := Aside0.mk gb27; have GG27 := Aside0.mk HG27; clear gb27 gl27 HG27; (first | simp only [add_plain] at hx184_0 | skip); (first | simp only [add_plain] at hx188_0 | skip); obtain ⟨hx27_0, hf27_0⟩ := Kd.R_celln 0 HO_5.out (x9_3 : Int) p27 q27; replace p27 := eq_true p27; replace q27 := eq_true q27; have n_ := Aside0.mk (Kd.R_mono (ok' := (fun k_ => some k_ ≠ (v186 : Value).ownBlock)) HO_5.out (fun k_ hk => hk.2)); clear HO_5; have HO_5 := n_; clear n_; obtain ⟨hy29_, hz29_⟩ := Kd.R_celln 0 HO_5.out (x9_3 : Int) (of_decide_eq_true (by first | (with_reducible assumption) | assumption)) (of_decide_eq_true (by first | (with_reducible assumption) | assumption)); have HP29 := Kd.R_putg HO_5.out (x9_3 : Int) (wrap64 ((rd x5_4 x9_3) - 1))) | ((with_reducible refine gate_store (t := 3) (p := 66) rfl ?_); refine store_event (t := 3) (p := 66) (v := ?vo_w30) (w1 := (w28.setCell ⟨go27, (x9_3 : Int).toNat, none⟩ (.int .i64 (wrap64 ((rd x5_4 x9_3) - 1))))) ?hg ?ho ?hn ?hr ?_; (case ho => rfl); (case hg => rfl); (case hn => rfl); (case hr => first | (go_simp; done) | (go_simp; rfl)); intro w30 hw; have hg : w28.grownBy w30 (some go27) := (by rw [hw]; exact HP29.2); have hp_ : Kd.R (Kd.int .i64) 3 w30 w.heap.size (fun k_ => some k_ ≠ (v186 : Value).ownBlock) (.slice (some ⟨go27, 0, none⟩) x5_4.length co19) y189 := (by rw [hw, Ny189.out]; exact HP29.1); clear HP29; have n0_ := Aside0.mk (hp_); have n1_ := Aside0.mk (Kd.R_after (v := (.slice (some ⟨go27, 0, none⟩) x5_4.length co19)) (v1 := (.slice (some ⟨go27, 0, none⟩) x5_4.length co19)) (ok := (fun _ => True)) (by (with_reducible repeat (first | apply Kd.R_alloc | apply Kd.R_drewN | apply Kd.R_drew)); exact Kd.R_mono HO187.out (fun _ hk => ⟨trivial, hk⟩)) hg (.inl rfl)); have n2_ := Aside0.mk ((by rw [hw]; exact below_set (HB.out) GB27.out : Below w.heap.size w w30)); clear HO_5; clear HO187; clear HB; have HO_5 := n0_; have HO187 := n1_; have HB := n2_; clear n0_ n1_ n2_; clear hg hw hp_))
                                        (try simp only [← hl5_4])
                                        go_roundg k4
                                        case measure => have := HK1.out; have := HK2.out; have := HK3.out; have := HK4.out; omega
                                        case rel => exact ⟨(y189), (y185), (wrap64 (x10_4 + 1)), (by first | rfl | (simp; done) | (simp [*]; done)), H', ⟨by have := HK1.out; have := HK2.out; have := HK3.out; have := HK4.out; omega⟩, ⟨by (try simp only [hl5_2]); (try simp only [hl5_3]); (try simp only [hl5_4]); (with_reducible repeat (first | apply Kd.R_alloc | apply Kd.R_drewN | apply Kd.R_drew)); exact HO_5.out⟩, ⟨by (try simp only [hl5_2]); (try simp only [hl5_3]); (try simp only [hl5_4]); (with_reducible repeat (first | apply Kd.R_alloc | apply Kd.R_drewN | apply Kd.R_drew)); exact Kd.R_mono HO187.out (fun _ hk => hk.2)⟩, ⟨by repeat (first | (with_reducible first | exact HB.out | apply below_alloc | apply pw_below_drewN | apply below_drew1) | exact HB.out)⟩⟩
                                      · rw [if_neg c26] at H
                                        exact absurd H (by simp)
                                    · rw [if_neg c25] at H
                                      have c25b0 : decide (0 < (rd x5_4 x9_3)) = false := decide_eq_false c25
                                      clear c25
                                      have H' := Aside0.mk H
                                      clear H
                                      have p184 : 0 ≤ (x9_3 : Int) := of_decide_eq_true (by first | (with_reducible assumption) | assumption)
                                      have q184 : x9_3 < (x5_4.length : Int) := of_decide_eq_true (by first | (with_reducible assumption) | assumption)
                                      obtain ⟨ad184, e184, hx184_0⟩ := Kd.at_int (Kd.R_reads' HO_5.out).2.2 x9_3 p184 q184
                                      cases e184
                                      replace p184 := eq_true p184
                                      replace q184 := eq_true q184
                                      go_wp2
                                      (try simp only [← hl5_3, ← hl5_4])
                                      go_roundg k4
                                      case measure => have := HK1.out; have := HK2.out; have := HK3.out; have := HK4.out; omega
                                      case rel => exact ⟨(x5_4), (x7_4), (wrap64 (x9_3 + 1)), (by first | rfl | (simp; done) | (simp [*]; done)), H', ⟨by have := HK1.out; have := HK2.out; have := HK3.out; have := HK4.out; omega⟩, ⟨by (try simp only [hl5_2]); (try simp only [hl5_3]); (try simp only [hl5_4]); (with_reducible repeat (first | apply Kd.R_alloc | apply Kd.R_drewN | apply Kd.R_drew)); exact HO_5.out⟩, ⟨by (try simp only [hl5_2]); (try simp only [hl5_3]); (try simp only [hl5_4]); (with_reducible repeat (first | apply Kd.R_alloc | apply Kd.R_drewN | apply Kd.R_drew)); exact HO_7.out⟩, ⟨by repeat (first | (with_reducible first | exact HB.out | apply below_alloc | apply pw_below_drewN | apply below_drew1) | exact HB.out)⟩⟩
                                  · rw [if_neg c24] at H
                                    exact absurd H (by simp)
                                · rw [if_neg c23] at H
                                  exact absurd H (by simp)
                              · rw [if_neg c22] at H
                                have c22b0 : decide (x10_4 < ji18) = false := decide_eq_false c22
                                clear c22
                                have H' := Aside0.mk H
                                clear H
                                go_wp2
                                (try simp only [← hl5_3, ← hl5_4])
                                go_roundg k4
                                case measure => have := HK1.out; have := HK2.out; have := HK3.out; have := HK4.out; omega
                                case rel => exact ⟨(x5_4), (x7_4), (wrap64 (x9_3 + 1)), (by first | rfl | (simp; done) | (simp [*]; done)), H', ⟨by have := HK1.out; have := HK2.out; have := HK3.out; have := HK4.out; omega⟩, ⟨by (try simp only [hl5_2]); (try simp only [hl5_3]); (try simp only [hl5_4]); (with_reducible repeat (first | apply Kd.R_alloc | apply Kd.R_drewN | apply Kd.R_drew)); exact HO_5.out⟩, ⟨by (try simp only [hl5_2]); (try simp only [hl5_3]); (try simp only [hl5_4]); (with_reducible repeat (first | apply Kd.R_alloc | apply Kd.R_drewN | apply Kd.R_drew)); exact HO_7.out⟩, ⟨by repeat (first | (with_reducible first | exact HB.out | apply below_alloc | apply pw_below_drewN | apply below_drew1) | exact HB.out)⟩⟩
                        · rw [if_neg c21] at H
                          have c21b0 : decide (x9_3 < (x5_3.length : Int)) = false := decide_eq_false c21
                          (try (have c21b2 := c21b0; simp only [hl5_2] at c21b2))
                          (try (have c21b2 := c21b0; simp only [hl5_3] at c21b2))
                          (try (have c21b2 := c21b0; simp only [hl5_4] at c21b2))
                          clear c21
                          have H' := Aside0.mk H
                          clear H
                          go_wp2
                          (try simp only [← hl5_2, ← hl5_3])
                          go_roundg k3
                          case measure => have := HK1.out; have := HK2.out; have := HK3.out; omega
                          case rel => exact ⟨(x5_3), (x7_3), (wrap64 (x8_2 + 1)), (by first | rfl | (simp; done) | (simp [*]; done)), H', ⟨by have := HK1.out; have := HK2.out; have := HK3.out; omega⟩, ⟨by (try simp only [hl5_2]); (try simp only [hl5_3]); (with_reducible repeat (first | apply Kd.R_alloc | apply Kd.R_drewN | apply Kd.R_drew)); exact HO_5.out⟩, ⟨by (try simp only [hl5_2]); (try simp only [hl5_3]); (with_reducible repeat (first | apply Kd.R_alloc | apply Kd.R_drewN | apply Kd.R_drew)); exact HO_7.out⟩, ⟨by repeat (first | (with_reducible first | exact HB.out | apply below_alloc | apply pw_below_drewN | apply below_drew1) | exact HB.out)⟩⟩
                  · rw [if_neg c20] at H
                    have c20b0 : decide (x8_2 < 1000) = false := decide_eq_false c20
                    clear c20
                    obtain rfl := Option.some.inj H
                    go_wp2
                    go_ret
                    exact ⟨_, by first | rfl | (simp [errW_none, errW_some] <;> rfl) | (simp only [← hji3, ← hji17, ← hji18]; first | rfl | (simp [errW_none, errW_some] <;> rfl)) | (simp [*, errW_none, errW_some] <;> rfl), by (with_reducible repeat (first | apply Kd.R_alloc | apply Kd.R_drewN | apply Kd.R_drew)); exact Kd.R_mono HO_7.out (fun _ hk => trivial), by repeat (first | (with_reducible first | exact HB.out | apply below_alloc | apply pw_below_drewN | apply below_drew1) | exact HB.out)⟩
      · rw [if_neg c6] at H
        exact absurd H (by simp)
    · rw [if_neg c5] at H
      exact absurd H (by simp)
  · rw [if_neg c4] at H
    exact absurd H (by simp)

end Go.Proofs.Ytjigomnmfhbjmaa.Print
