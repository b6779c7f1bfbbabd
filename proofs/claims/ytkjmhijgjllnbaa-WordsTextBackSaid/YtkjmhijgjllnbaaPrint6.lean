-- Made by wip/tools/wprint.py, a program of this workplace, over the translation. Lean checks it.
import Derived.Test.YtkjmhijgjllnbaaPrint0
import Derived.Test.YtkjmhijgjllnbaaPrint3
import Derived.Test.YtkjmhijgjllnbaaPrint5
import Derived.Test.YtkjmhijgjllnbaaHwordsHash
import Derived.Test.YtkjmhijgjllnbaaHwordsText
namespace Go.Proofs.Ytkjmhijgjllnbaa.Print
open Go.RowKit Go.Proofs.YtkjmhijgjllnbaaW.PrintWords Go.Proofs.YtkjmhijgjllnbaaW.PrintLast Go.Proofs.YtkjmhijgjllnbaaW.PrintMore
attribute [local go_sem] max2_int min2_int max_two min_two max_three min_three max_four min_four   -- for this text's walks alone
set_option linter.unusedVariables false
set_option linter.unusedSimpArgs false

/-! ### escritoireref01_Hash: function 20 -/
def escritoireref01_Hash.l0 : Nat → ByteArray → Int → Int → Option (Int)
  | 0, _, _, _ => none
  | k + 1, x0, x3, x4 => if x4 < (x0.size : Int) then (if 0 ≤ x4 then (escritoireref01_Hash.l0 k x0 (IntKind.u64.wrap ((Go.bits .xor .u64 x3 (IntKind.u64.wrap (bt x0 x4))) * 1099511628211)) (wrap64 (x4 + 1))) else (none)) else (some x3)
def escritoireref01_Hash.f (k : Nat) (a0 : ByteArray) : Option (Int) := escritoireref01_Hash.l0 k a0 14695981039346656037 0
theorem escritoireref01_Hash.mono_l : ∀ k, (∀ y0 y1 y2, LeO (escritoireref01_Hash.l0 k y0 y1 y2) (escritoireref01_Hash.l0 (k + 1) y0 y1 y2))
  | 0 => fun _ _ _ r h => by simp [escritoireref01_Hash.l0] at h
  | k + 1 => by
    have ih0 := escritoireref01_Hash.mono_l k
    · intro y0 y1 y2
      unfold escritoireref01_Hash.l0
      repeat' first
      | (with_reducible exact ih0 _ _ _)
      | (with_reducible exact LeO.refl _)
      | (with_reducible exact LeO.none _)
      | (with_reducible refine LeO.ite ?_ ?_)
      | (with_reducible refine LeO.bind ?_ (fun _ => ?_))
      | exact ih0 _ _ _
      | exact LeO.none _
      | refine LeO.ite ?_ ?_
      | refine LeO.bind ?_ (fun _ => ?_)
theorem escritoireref01_Hash.mono : ∀ a0 k, LeO (escritoireref01_Hash.f k a0) (escritoireref01_Hash.f (k + 1) a0) := by
  intro a0 k
  have ih0 := escritoireref01_Hash.mono_l k
  unfold escritoireref01_Hash.f
  repeat' first
      | (with_reducible exact ih0 _ _ _)
      | (with_reducible exact LeO.refl _)
      | (with_reducible exact LeO.none _)
      | (with_reducible refine LeO.ite ?_ ?_)
      | (with_reducible refine LeO.bind ?_ (fun _ => ?_))
      | exact ih0 _ _ _
      | exact LeO.none _
      | refine LeO.ite ?_ ?_
      | refine LeO.bind ?_ (fun _ => ?_)
set_option maxHeartbeats 8000000 in
set_option maxRecDepth 100000 in
theorem escritoireref01_Hash.calls (k : Nat) (a0 : ByteArray) (r : Int) (w : World) (h : escritoireref01_Hash.f k a0 = some r) :
    Calls Try.prog 20 #[.string a0] w fun e w' => e = .returned (.int .u64 r) ∧ Drawn0 w w' := by
  have H : (escritoireref01_Hash.l0 k a0 14695981039346656037 0) = some r := h
  clear h
  have H' := Aside0.mk H
  clear H
  go_enter Try.func20, Try.ntmps20
  go_wp2
  go_loopg [3, 4] k (fun kq v3 v4 w' => ∃ (x3_1 : Int) (x4_1 : Int), v3 = .int .u64 x3_1 ∧ v4 = .int .i64 x4_1 ∧ Aside0 (escritoireref01_Hash.l0 kq a0 x3_1 x4_1 = some r) ∧ Aside0 (kq ≤ k) ∧ Drawn0 w w')
  case atStart => exact ⟨(14695981039346656037), (0), (by first | rfl | (simp; done) | (simp [*]; done)), (by first | rfl | (simp; done) | (simp [*]; done)), H', ⟨Nat.le_refl _⟩, by repeat (first | exact Drawn0.refl _ | apply Drawn0.step)⟩
  case round =>
    clear H'
    obtain ⟨x3_1, x4_1, rfl, rfl, HA, HK1, ⟨m1, rfl⟩⟩ := hrel
    cases gk with
    | zero => exact absurd HA.out (by simp [escritoireref01_Hash.l0])
    | succ k1 =>
      have H := HA.out
      clear HA
      simp only [escritoireref01_Hash.l0] at H
      by_cases c2 : x4_1 < (a0.size : Int)
      · rw [if_pos c2] at H
        have c2b0 : decide (x4_1 < (a0.size : Int)) = true := decide_eq_true c2
        clear c2
        by_cases c3 : 0 ≤ x4_1
        · rw [if_pos c3] at H
          have c3b0 : decide (0 ≤ x4_1) = true := decide_eq_true c3
          clear c3
          have H' := Aside0.mk H
          clear H
          have p4 : 0 ≤ (x4_1 : Int) := of_decide_eq_true (by first | (with_reducible assumption) | assumption)
          have q4 : x4_1 < (a0.size : Int) := of_decide_eq_true (by first | (with_reducible assumption) | assumption)
          have hx4 := bt_at a0 x4_1
          replace p4 := eq_true p4
          replace q4 := eq_true q4
          go_wp2
          go_roundg k1
          case measure => have := HK1.out; omega
          case rel => exact ⟨(IntKind.u64.wrap ((Go.bits .xor .u64 x3_1 (IntKind.u64.wrap (bt a0 x4_1))) * 1099511628211)), (wrap64 (x4_1 + 1)), (by first | rfl | (simp; done) | (simp [*]; done)), (by first | rfl | (simp; done) | (simp [*]; done)), H', ⟨by have := HK1.out; omega⟩, by repeat (first | exact Drawn0.refl _ | apply Drawn0.step)⟩
        · rw [if_neg c3] at H
          exact absurd H (by simp)
      · rw [if_neg c2] at H
        have c2b0 : decide (x4_1 < (a0.size : Int)) = false := decide_eq_false c2
        clear c2
        obtain rfl := Option.some.inj H
        go_wp2
        go_ret
        exact ⟨by first | rfl | (simp; done) | (simp [*]; done), by repeat (first | exact Drawn0.refl _ | apply Drawn0.step)⟩

/-! ### escritoirelaw01_WordsTexts: function 7 -/
def escritoirelaw01_WordsTexts.f (k : Nat) (a0 : ByteArray) (a1 : Int) (l2 : List Int) : Option (Bool) := (escritoirelaw01_lives.f).bind fun t180 => (if t180 = true then ((words_Text.f a0 a1).bind fun bt181 => ((escritoireref01_Text.f k a0 a1).bind fun bt185 => ((words_Untext.f k l2 a1).bind fun bt189 => ((escritoireref01_Untext.f k l2 a1).bind fun bt191 => ((escritoireref01_Same.f k bt181.1 bt185.1).bind fun t193 => (if t193 = true then (if bt181.2 = bt185.2 then (if bt189.1.toList = bt191.1.toList then (if bt189.2 = bt191.2 then ((words_Hash.f a0).bind fun t194 => ((escritoireref01_Hash.f k a0).bind fun t195 => (some (t194 == t195)))) else (some false)) else (some false)) else (some false)) else (some false))))))) else (some false))
theorem escritoirelaw01_WordsTexts.mono : ∀ a0 a1 a2 k, LeO (escritoirelaw01_WordsTexts.f k a0 a1 a2) (escritoirelaw01_WordsTexts.f (k + 1) a0 a1 a2) := by
  intro a0 a1 a2 k
  unfold escritoirelaw01_WordsTexts.f
  repeat' first
      | (with_reducible exact escritoireref01_Hash.mono _ _)
      | (with_reducible exact escritoireref01_Same.mono _ _ _)
      | (with_reducible exact escritoireref01_Text.mono _ _ _)
      | (with_reducible exact escritoireref01_Untext.mono _ _ _)
      | (with_reducible exact words_Untext.mono _ _ _)
      | (with_reducible exact LeO.refl _)
      | (with_reducible exact LeO.none _)
      | (with_reducible refine LeO.ite ?_ ?_)
      | (with_reducible refine LeO.bind ?_ (fun _ => ?_))
      | exact escritoireref01_Hash.mono _ _
      | exact escritoireref01_Same.mono _ _ _
      | exact escritoireref01_Text.mono _ _ _
      | exact escritoireref01_Untext.mono _ _ _
      | exact words_Untext.mono _ _ _
      | exact LeO.none _
      | refine LeO.ite ?_ ?_
      | refine LeO.bind ?_ (fun _ => ?_)
set_option maxHeartbeats 8000000 in
set_option maxRecDepth 100000 in
theorem escritoirelaw01_WordsTexts.calls (k : Nat) (a0 : ByteArray) (a1 : Int) (A2 : Option Addr) (c2 : Nat) (l2 : List Int) (r : Bool) (w : World) (hr2 : Kd.C (Kd.int .u64) w A2 l2.length l2) (hc2 : l2.length ≤ c2) (h : escritoirelaw01_WordsTexts.f k a0 a1 l2 = some r) :
    Calls Try.prog 7 #[.string a0, .int .i64 a1, .slice A2 l2.length c2] w fun e w' => e = .returned (.bool r) ∧ Below w.heap.size w w' := by
  have HR2 := Aside0.mk hr2
  have HC2 := Aside0.mk hc2
  clear hr2 hc2
  have HB := Aside0.mk (Below.refl w.heap.size w)
  have H : ((escritoirelaw01_lives.f).bind fun t180 => (if t180 = true then ((words_Text.f a0 a1).bind fun bt181 => ((escritoireref01_Text.f k a0 a1).bind fun bt185 => ((words_Untext.f k l2 a1).bind fun bt189 => ((escritoireref01_Untext.f k l2 a1).bind fun bt191 => ((escritoireref01_Same.f k bt181.1 bt185.1).bind fun t193 => (if t193 = true then (if bt181.2 = bt185.2 then (if bt189.1.toList = bt191.1.toList then (if bt189.2 = bt191.2 then ((words_Hash.f a0).bind fun t194 => ((escritoireref01_Hash.f k a0).bind fun t195 => (some (t194 == t195)))) else (some false)) else (some false)) else (some false)) else (some false))))))) else (some false))) = some r := h
  clear h
  replace H := Option.bind_eq_some_iff.mp H
  obtain ⟨t180, A40, H⟩ := H
  replace H : (if t180 = true then ((words_Text.f a0 a1).bind fun bt181 => ((escritoireref01_Text.f k a0 a1).bind fun bt185 => ((words_Untext.f k l2 a1).bind fun bt189 => ((escritoireref01_Untext.f k l2 a1).bind fun bt191 => ((escritoireref01_Same.f k bt181.1 bt185.1).bind fun t193 => (if t193 = true then (if bt181.2 = bt185.2 then (if bt189.1.toList = bt191.1.toList then (if bt189.2 = bt191.2 then ((words_Hash.f a0).bind fun t194 => ((escritoireref01_Hash.f k a0).bind fun t195 => (some (t194 == t195)))) else (some false)) else (some false)) else (some false)) else (some false))))))) else (some false)) = some r := H
  have A4 := Aside0.mk A40
  clear A40
  by_cases c5 : t180 = true
  · subst c5
    have H1 : ((words_Text.f a0 a1).bind fun bt181 => ((escritoireref01_Text.f k a0 a1).bind fun bt185 => ((words_Untext.f k l2 a1).bind fun bt189 => ((escritoireref01_Untext.f k l2 a1).bind fun bt191 => ((escritoireref01_Same.f k bt181.1 bt185.1).bind fun t193 => (if t193 = true then (if bt181.2 = bt185.2 then (if bt189.1.toList = bt191.1.toList then (if bt189.2 = bt191.2 then ((words_Hash.f a0).bind fun t194 => ((escritoireref01_Hash.f k a0).bind fun t195 => (some (t194 == t195)))) else (some false)) else (some false)) else (some false)) else (some false))))))) = some r := by rw [if_pos rfl] at H; exact H
    clear H
    have H := H1
    clear H1
    replace H := Option.bind_eq_some_iff.mp H
    obtain ⟨⟨t181, t182⟩, A60, H⟩ := H
    replace H : ((escritoireref01_Text.f k a0 a1).bind fun bt185 => ((words_Untext.f k l2 a1).bind fun bt189 => ((escritoireref01_Untext.f k l2 a1).bind fun bt191 => ((escritoireref01_Same.f k t181 bt185.1).bind fun t193 => (if t193 = true then (if t182 = bt185.2 then (if bt189.1.toList = bt191.1.toList then (if bt189.2 = bt191.2 then ((words_Hash.f a0).bind fun t194 => ((escritoireref01_Hash.f k a0).bind fun t195 => (some (t194 == t195)))) else (some false)) else (some false)) else (some false)) else (some false)))))) = some r := H
    have A6 := Aside0.mk A60
    clear A60
    replace H := Option.bind_eq_some_iff.mp H
    obtain ⟨⟨t185, t186⟩, A70, H⟩ := H
    replace H : ((words_Untext.f k l2 a1).bind fun bt189 => ((escritoireref01_Untext.f k l2 a1).bind fun bt191 => ((escritoireref01_Same.f k t181 t185).bind fun t193 => (if t193 = true then (if t182 = t186 then (if bt189.1.toList = bt191.1.toList then (if bt189.2 = bt191.2 then ((words_Hash.f a0).bind fun t194 => ((escritoireref01_Hash.f k a0).bind fun t195 => (some (t194 == t195)))) else (some false)) else (some false)) else (some false)) else (some false))))) = some r := H
    have A7 := Aside0.mk A70
    clear A70
    replace H := Option.bind_eq_some_iff.mp H
    obtain ⟨⟨t189, t190⟩, A80, H⟩ := H
    replace H : ((escritoireref01_Untext.f k l2 a1).bind fun bt191 => ((escritoireref01_Same.f k t181 t185).bind fun t193 => (if t193 = true then (if t182 = t186 then (if t189.toList = bt191.1.toList then (if t190 = bt191.2 then ((words_Hash.f a0).bind fun t194 => ((escritoireref01_Hash.f k a0).bind fun t195 => (some (t194 == t195)))) else (some false)) else (some false)) else (some false)) else (some false)))) = some r := H
    have A8 := Aside0.mk A80
    clear A80
    replace H := Option.bind_eq_some_iff.mp H
    obtain ⟨⟨t191, t192⟩, A90, H⟩ := H
    replace H : ((escritoireref01_Same.f k t181 t185).bind fun t193 => (if t193 = true then (if t182 = t186 then (if t189.toList = t191.toList then (if t190 = t192 then ((words_Hash.f a0).bind fun t194 => ((escritoireref01_Hash.f k a0).bind fun t195 => (some (t194 == t195)))) else (some false)) else (some false)) else (some false)) else (some false))) = some r := H
    have A9 := Aside0.mk A90
    clear A90
    replace H := Option.bind_eq_some_iff.mp H
    obtain ⟨t193, A100, H⟩ := H
    replace H : (if t193 = true then (if t182 = t186 then (if t189.toList = t191.toList then (if t190 = t192 then ((words_Hash.f a0).bind fun t194 => ((escritoireref01_Hash.f k a0).bind fun t195 => (some (t194 == t195)))) else (some false)) else (some false)) else (some false)) else (some false)) = some r := H
    have A10 := Aside0.mk A100
    clear A100
    by_cases c11 : t193 = true
    · subst c11
      have H1 : (if t182 = t186 then (if t189.toList = t191.toList then (if t190 = t192 then ((words_Hash.f a0).bind fun t194 => ((escritoireref01_Hash.f k a0).bind fun t195 => (some (t194 == t195)))) else (some false)) else (some false)) else (some false)) = some r := by rw [if_pos rfl] at H; exact H
      clear H
      have H := H1
      clear H1
      by_cases c12 : t182 = t186
      · rw [if_pos c12] at H
        have c12b0 : (t182 == t186) = true := beq_iff_eq.mpr c12
        have c12b1 : (t182 != t186) = false := bne_eq_false_iff_eq.mpr c12
        clear c12
        by_cases c13 : t189.toList = t191.toList
        · rw [if_pos c13] at H
          have c13b0 : (t189.toList == t191.toList) = true := beq_iff_eq.mpr c13
          have c13b1 : (t189.toList != t191.toList) = false := bne_eq_false_iff_eq.mpr c13
          clear c13
          by_cases c14 : t190 = t192
          · rw [if_pos c14] at H
            have c14b0 : (t190 == t192) = true := beq_iff_eq.mpr c14
            have c14b1 : (t190 != t192) = false := bne_eq_false_iff_eq.mpr c14
            clear c14
            replace H := Option.bind_eq_some_iff.mp H
            obtain ⟨t194, A150, H⟩ := H
            replace H : ((escritoireref01_Hash.f k a0).bind fun t195 => (some (t194 == t195))) = some r := H
            have A15 := Aside0.mk A150
            clear A150
            replace H := Option.bind_eq_some_iff.mp H
            obtain ⟨t195, A160, H⟩ := H
            replace H : (some (t194 == t195)) = some r := H
            have A16 := Aside0.mk A160
            clear A160
            obtain rfl := Option.some.inj H
            go_enter Try.func7, Try.ntmps7
            go_wp2_with (first | ((with_reducible refine gate_callee (f := 9) rfl ?_); refine goesL_ (some 15) rfl rfl Try.func9 (by kernel_rfl) rfl #[] rfl (by (try simp only [List.map_toArray, List.map_cons, List.map_nil]); first | done | rfl | (simp only [List.length_drop, List.length_take]; rfl)) ?_; (with_reducible refine (escritoirelaw01_lives.calls  true _ A4.out).mono ?_); rintro e w17 ⟨rfl, hb⟩; refine ⟨_, rfl, ?_⟩; have n0_ := Aside0.mk (below_step (by repeat (first | (with_reducible first | exact HB.out | apply below_alloc | apply pw_below_drewN | apply below_drew1) | exact HB.out)) hb); clear HB; have HB := n0_; clear n0_; (try clear hb); (try clear hb2); (try clear hk); (try clear hi)) | ((with_reducible refine gate_callee (f := 15) rfl ?_); refine goesL_ (some 20) rfl rfl Try.func15 (by kernel_rfl) rfl #[.string a0, .int .i64 a1] rfl (by (try simp only [List.map_toArray, List.map_cons, List.map_nil]); first | done | rfl | (simp only [List.length_drop, List.length_take]; rfl)) ?_; (with_reducible refine (words_Text.calls a0 a1 t181 t182 _ A6.out).mono ?_); rintro e w18 ⟨v183, rfl, ho0, hb⟩; refine ⟨_, rfl, ?_⟩; have n0_ := Aside0.mk (Kd.R_lower ho0 (below_size (by repeat (first | (with_reducible first | exact HB.out | apply below_alloc | apply pw_below_drewN | apply below_drew1) | exact HB.out)))); have n1_ := Aside0.mk (below_step (by repeat (first | (with_reducible first | exact HB.out | apply below_alloc | apply pw_below_drewN | apply below_drew1) | exact HB.out)) hb); clear HB; have HO184 := n0_; have HB := n1_; clear n0_ n1_; (try clear hb); (try clear hb2); (try clear hk); (try clear hi); (try clear ho0)) | ((with_reducible refine gate_callee (f := 16) rfl ?_); refine goesL_ (some 26) rfl rfl Try.func16 (by kernel_rfl) rfl #[.string a0, .int .i64 a1] rfl (by (try simp only [List.map_toArray, List.map_cons, List.map_nil]); first | done | rfl | (simp only [List.length_drop, List.length_take]; rfl)) ?_; (with_reducible refine (escritoireref01_Text.calls k a0 a1 t185 t186 _ A7.out).mono ?_); rintro e w19 ⟨v187, rfl, ho0, hb⟩; refine ⟨_, rfl, ?_⟩; have n0_ := Aside0.mk (Kd.R_elder' (by (with_reducible repeat (first | apply Kd.R_alloc | apply Kd.R_drewN | apply Kd.R_drew)); exact HO184.out) (Kd.R_base ho0) hb); have n1_ := Aside0.mk (Kd.R_lower (Kd.R_new' ho0 (Kd.R_lt (by (with_reducible repeat (first | apply Kd.R_alloc | apply Kd.R_drewN | apply Kd.R_drew)); exact HO184.out))) (below_size (by repeat (first | (with_reducible first | exact HB.out | apply below_alloc | apply pw_below_drewN | apply below_drew1) | exact HB.out)))); have n2_ := Aside0.mk (below_step (by repeat (first | (with_reducible first | exact HB.out | apply below_alloc | apply pw_below_drewN | apply below_drew1) | exact HB.out)) hb); clear HO184; clear HB; have HO184 := n0_; have HO188 := n1_; have HB := n2_; clear n0_ n1_ n2_; (try clear hb); (try clear hb2); (try clear hk); (try clear hi); (try clear ho0)) | ((with_reducible refine gate_callee (f := 17) rfl ?_); refine goesL_ (some 32) rfl rfl Try.func17 (by kernel_rfl) rfl #[.slice A2 l2.length c2, .int .i64 a1] rfl (by (try simp only [List.map_toArray, List.map_cons, List.map_nil]); first | done | rfl | (simp only [List.length_drop, List.length_take]; rfl)) ?_; (with_reducible refine (words_Untext.calls k _ _ l2 a1 t189 t190 _ ?side1 ?side2 A8.out).mono ?_); (case side1 => repeat (first | exact (Kd.C_below HR2.out HB.out) | (with_reducible refine Kd.C_alloc ?_ _) | (with_reducible refine Kd.C_drewN ?_ _) | (with_reducible refine Kd.C_drew ?_))); (case side2 => exact HC2.out); rintro e w20 ⟨rfl, hb⟩; refine ⟨_, rfl, ?_⟩; have n0_ := Aside0.mk (Kd.R_below (by (with_reducible repeat (first | apply Kd.R_alloc | apply Kd.R_drewN | apply Kd.R_drew)); exact HO184.out) hb); have n1_ := Aside0.mk (Kd.R_below (by (with_reducible repeat (first | apply Kd.R_alloc | apply Kd.R_drewN | apply Kd.R_drew)); exact HO188.out) hb); have n2_ := Aside0.mk (below_step (by repeat (first | (with_reducible first | exact HB.out | apply below_alloc | apply pw_below_drewN | apply below_drew1) | exact HB.out)) hb); clear HO184; clear HO188; clear HB; have HO184 := n0_; have HO188 := n1_; have HB := n2_; clear n0_ n1_ n2_; (try clear hb); (try clear hb2); (try clear hk); (try clear hi)) | ((with_reducible refine gate_callee (f := 18) rfl ?_); refine goesL_ (some 38) rfl rfl Try.func18 (by kernel_rfl) rfl #[.slice A2 l2.length c2, .int .i64 a1] rfl (by (try simp only [List.map_toArray, List.map_cons, List.map_nil]); first | done | rfl | (simp only [List.length_drop, List.length_take]; rfl)) ?_; (with_reducible refine (escritoireref01_Untext.calls k _ _ l2 a1 t191 t192 _ ?side1 ?side2 A9.out).mono ?_); (case side1 => repeat (first | exact (Kd.C_below HR2.out HB.out) | (with_reducible refine Kd.C_alloc ?_ _) | (with_reducible refine Kd.C_drewN ?_ _) | (with_reducible refine Kd.C_drew ?_))); (case side2 => exact HC2.out); rintro e w21 ⟨rfl, hb⟩; refine ⟨_, rfl, ?_⟩; have n0_ := Aside0.mk (Kd.R_below (by (with_reducible repeat (first | apply Kd.R_alloc | apply Kd.R_drewN | apply Kd.R_drew)); exact HO184.out) hb); have n1_ := Aside0.mk (Kd.R_below (by (with_reducible repeat (first | apply Kd.R_alloc | apply Kd.R_drewN | apply Kd.R_drew)); exact HO188.out) hb); have n2_ := Aside0.mk (below_step (by repeat (first | (with_reducible first | exact HB.out | apply below_alloc | apply pw_below_drewN | apply below_drew1) | exact HB.out)) hb); clear HO184; clear HO188; clear HB; have HO184 := n0_; have HO188 := n1_; have HB := n2_; clear n0_ n1_ n2_; (try clear hb); (try clear hb2); (try clear hk); (try clear hi); obtain ⟨Ao22, co22, eo22⟩ := Kd.R_slice HO184.out; subst eo22; obtain ⟨Ao23, co23, eo23⟩ := Kd.R_slice HO188.out; subst eo23) | ((with_reducible refine gate_callee (f := 19) rfl ?_); refine goesL_ (some 43) rfl rfl Try.func19 (by kernel_rfl) rfl #[.slice Ao22 t181.length co22, .slice Ao23 t185.length co23] rfl (by (try simp only [List.map_toArray, List.map_cons, List.map_nil]); first | done | rfl | (simp only [List.length_drop, List.length_take]; rfl)) ?_; (with_reducible refine (escritoireref01_Same.calls k _ _ t181 _ _ t185 true _ ?side1 ?side2 ?side3 ?side4 A10.out).mono ?_); (case side1 => repeat (first | exact (Kd.R_reads' HO184.out).2.2 | (with_reducible refine Kd.C_alloc ?_ _) | (with_reducible refine Kd.C_drewN ?_ _) | (with_reducible refine Kd.C_drew ?_))); (case side2 => exact (Kd.R_reads' HO184.out).2.1); (case side3 => repeat (first | exact (Kd.R_reads' HO188.out).2.2 | (with_reducible refine Kd.C_alloc ?_ _) | (with_reducible refine Kd.C_drewN ?_ _) | (with_reducible refine Kd.C_drew ?_))); (case side4 => exact (Kd.R_reads' HO188.out).2.1); rintro e w' ⟨rfl, ⟨nd, rfl⟩⟩; refine ⟨_, rfl, ?_⟩) | (go_at_call 10; (with_reducible refine (words_Hash.calls a0 t194 _ A15.out).mono ?_); rintro e w24 ⟨rfl, hb⟩; have n0_ := Aside0.mk (Kd.R_below (by (with_reducible repeat (first | apply Kd.R_alloc | apply Kd.R_drewN | apply Kd.R_drew)); exact HO184.out) hb); have n1_ := Aside0.mk (Kd.R_below (by (with_reducible repeat (first | apply Kd.R_alloc | apply Kd.R_drewN | apply Kd.R_drew)); exact HO188.out) hb); have n2_ := Aside0.mk (below_step (by repeat (first | (with_reducible first | exact HB.out | apply below_alloc | apply pw_below_drewN | apply below_drew1) | exact HB.out)) hb); clear HO184; clear HO188; clear HB; have HO184 := n0_; have HO188 := n1_; have HB := n2_; clear n0_ n1_ n2_; (try clear hb); (try clear hb2); (try clear hk); (try clear hi)) | (go_at_call 20; (with_reducible refine (escritoireref01_Hash.calls k a0 t195 _ A16.out).mono ?_); rintro e w' ⟨rfl, ⟨nd, rfl⟩⟩))
            go_ret
            exact ⟨by first | rfl | (simp [errW_none, errW_some] <;> rfl) | (simp [*, errW_none, errW_some] <;> rfl), by repeat (first | (with_reducible first | exact HB.out | apply below_alloc | apply pw_below_drewN | apply below_drew1) | exact HB.out)⟩
          · rw [if_neg c14] at H
            have c14b0 : (t190 == t192) = false := beq_eq_false_iff_ne.mpr c14
            have c14b1 : (t190 != t192) = true := bne_iff_ne.mpr c14
            obtain rfl := Option.some.inj H
            go_enter Try.func7, Try.ntmps7
            go_wp2_with (first | ((with_reducible refine gate_callee (f := 9) rfl ?_); refine goesL_ (some 15) rfl rfl Try.func9 (by kernel_rfl) rfl #[] rfl (by (try simp only [List.map_toArray, List.map_cons, List.map_nil]); first | done | rfl | (simp only [List.length_drop, List.length_take]; rfl)) ?_; (with_reducible refine (escritoirelaw01_lives.calls  true _ A4.out).mono ?_); rintro e w25 ⟨rfl, hb⟩; refine ⟨_, rfl, ?_⟩; have n0_ := Aside0.mk (below_step (by repeat (first | (with_reducible first | exact HB.out | apply below_alloc | apply pw_below_drewN | apply below_drew1) | exact HB.out)) hb); clear HB; have HB := n0_; clear n0_; (try clear hb); (try clear hb2); (try clear hk); (try clear hi)) | ((with_reducible refine gate_callee (f := 15) rfl ?_); refine goesL_ (some 20) rfl rfl Try.func15 (by kernel_rfl) rfl #[.string a0, .int .i64 a1] rfl (by (try simp only [List.map_toArray, List.map_cons, List.map_nil]); first | done | rfl | (simp only [List.length_drop, List.length_take]; rfl)) ?_; (with_reducible refine (words_Text.calls a0 a1 t181 t182 _ A6.out).mono ?_); rintro e w26 ⟨v183, rfl, ho0, hb⟩; refine ⟨_, rfl, ?_⟩; have n0_ := Aside0.mk (Kd.R_lower ho0 (below_size (by repeat (first | (with_reducible first | exact HB.out | apply below_alloc | apply pw_below_drewN | apply below_drew1) | exact HB.out)))); have n1_ := Aside0.mk (below_step (by repeat (first | (with_reducible first | exact HB.out | apply below_alloc | apply pw_below_drewN | apply below_drew1) | exact HB.out)) hb); clear HB; have HO184 := n0_; have HB := n1_; clear n0_ n1_; (try clear hb); (try clear hb2); (try clear hk); (try clear hi); (try clear ho0)) | ((with_reducible refine gate_callee (f := 16) rfl ?_); refine goesL_ (some 26) rfl rfl Try.func16 (by kernel_rfl) rfl #[.string a0, .int .i64 a1] rfl (by (try simp only [List.map_toArray, List.map_cons, List.map_nil]); first | done | rfl | (simp only [List.length_drop, List.length_take]; rfl)) ?_; (with_reducible refine (escritoireref01_Text.calls k a0 a1 t185 t186 _ A7.out).mono ?_); rintro e w27 ⟨v187, rfl, ho0, hb⟩; refine ⟨_, rfl, ?_⟩; have n0_ := Aside0.mk (Kd.R_elder' (by (with_reducible repeat (first | apply Kd.R_alloc | apply Kd.R_drewN | apply Kd.R_drew)); exact HO184.out) (Kd.R_base ho0) hb); have n1_ := Aside0.mk (Kd.R_lower (Kd.R_new' ho0 (Kd.R_lt (by (with_reducible repeat (first | apply Kd.R_alloc | apply Kd.R_drewN | apply Kd.R_drew)); exact HO184.out))) (below_size (by repeat (first | (with_reducible first | exact HB.out | apply below_alloc | apply pw_below_drewN | apply below_drew1) | exact HB.out)))); have n2_ := Aside0.mk (below_step (by repeat (first | (with_reducible first | exact HB.out | apply below_alloc | apply pw_below_drewN | apply below_drew1) | exact HB.out)) hb); clear HO184; clear HB; have HO184 := n0_; have HO188 := n1_; have HB := n2_; clear n0_ n1_ n2_; (try clear hb); (try clear hb2); (try clear hk); (try clear hi); (try clear ho0)) | ((with_reducible refine gate_callee (f := 17) rfl ?_); refine goesL_ (some 32) rfl rfl Try.func17 (by kernel_rfl) rfl #[.slice A2 l2.length c2, .int .i64 a1] rfl (by (try simp only [List.map_toArray, List.map_cons, List.map_nil]); first | done | rfl | (simp only [List.length_drop, List.length_take]; rfl)) ?_; (with_reducible refine (words_Untext.calls k _ _ l2 a1 t189 t190 _ ?side1 ?side2 A8.out).mono ?_); (case side1 => repeat (first | exact (Kd.C_below HR2.out HB.out) | (with_reducible refine Kd.C_alloc ?_ _) | (with_reducible refine Kd.C_drewN ?_ _) | (with_reducible refine Kd.C_drew ?_))); (case side2 => exact HC2.out); rintro e w28 ⟨rfl, hb⟩; refine ⟨_, rfl, ?_⟩; have n0_ := Aside0.mk (Kd.R_below (by (with_reducible repeat (first | apply Kd.R_alloc | apply Kd.R_drewN | apply Kd.R_drew)); exact HO184.out) hb); have n1_ := Aside0.mk (Kd.R_below (by (with_reducible repeat (first | apply Kd.R_alloc | apply Kd.R_drewN | apply Kd.R_drew)); exact HO188.out) hb); have n2_ := Aside0.mk (below_step (by repeat (first | (with_reducible first | exact HB.out | apply below_alloc | apply pw_below_drewN | apply below_drew1) | exact HB.out)) hb); clear HO184; clear HO188; clear HB; have HO184 := n0_; have HO188 := n1_; have HB := n2_; clear n0_ n1_ n2_; (try clear hb); (try clear hb2); (try clear hk); (try clear hi)) | ((with_reducible refine gate_callee (f := 18) rfl ?_); refine goesL_ (some 38) rfl rfl Try.func18 (by kernel_rfl) rfl #[.slice A2 l2.length c2, .int .i64 a1] rfl (by (try simp only [List.map_toArray, List.map_cons, List.map_nil]); first | done | rfl | (simp only [List.length_drop, List.length_take]; rfl)) ?_; (with_reducible refine (escritoireref01_Untext.calls k _ _ l2 a1 t191 t192 _ ?side1 ?side2 A9.out).mono ?_); (case side1 => repeat (first | exact (Kd.C_below HR2.out HB.out) | (with_reducible refine Kd.C_alloc ?_ _) | (with_reducible refine Kd.C_drewN ?_ _) | (with_reducible refine Kd.C_drew ?_))); (case side2 => exact HC2.out); rintro e w29 ⟨rfl, hb⟩; refine ⟨_, rfl, ?_⟩; have n0_ := Aside0.mk (Kd.R_below (by (with_reducible repeat (first | apply Kd.R_alloc | apply Kd.R_drewN | apply Kd.R_drew)); exact HO184.out) hb); have n1_ := Aside0.mk (Kd.R_below (by (with_reducible repeat (first | apply Kd.R_alloc | apply Kd.R_drewN | apply Kd.R_drew)); exact HO188.out) hb); have n2_ := Aside0.mk (below_step (by repeat (first | (with_reducible first | exact HB.out | apply below_alloc | apply pw_below_drewN | apply below_drew1) | exact HB.out)) hb); clear HO184; clear HO188; clear HB; have HO184 := n0_; have HO188 := n1_; have HB := n2_; clear n0_ n1_ n2_; (try clear hb); (try clear hb2); (try clear hk); (try clear hi); obtain ⟨Ao30, co30, eo30⟩ := Kd.R_slice HO184.out; subst eo30; obtain ⟨Ao31, co31, eo31⟩ := Kd.R_slice HO188.out; subst eo31) | ((with_reducible refine gate_callee (f := 19) rfl ?_); refine goesL_ (some 43) rfl rfl Try.func19 (by kernel_rfl) rfl #[.slice Ao30 t181.length co30, .slice Ao31 t185.length co31] rfl (by (try simp only [List.map_toArray, List.map_cons, List.map_nil]); first | done | rfl | (simp only [List.length_drop, List.length_take]; rfl)) ?_; (with_reducible refine (escritoireref01_Same.calls k _ _ t181 _ _ t185 true _ ?side1 ?side2 ?side3 ?side4 A10.out).mono ?_); (case side1 => repeat (first | exact (Kd.R_reads' HO184.out).2.2 | (with_reducible refine Kd.C_alloc ?_ _) | (with_reducible refine Kd.C_drewN ?_ _) | (with_reducible refine Kd.C_drew ?_))); (case side2 => exact (Kd.R_reads' HO184.out).2.1); (case side3 => repeat (first | exact (Kd.R_reads' HO188.out).2.2 | (with_reducible refine Kd.C_alloc ?_ _) | (with_reducible refine Kd.C_drewN ?_ _) | (with_reducible refine Kd.C_drew ?_))); (case side4 => exact (Kd.R_reads' HO188.out).2.1); rintro e w' ⟨rfl, ⟨nd, rfl⟩⟩; refine ⟨_, rfl, ?_⟩))
            go_ret
            exact ⟨by first | rfl | (simp [errW_none, errW_some] <;> rfl) | (simp [*, errW_none, errW_some] <;> rfl), by repeat (first | (with_reducible first | exact HB.out | apply below_alloc | apply pw_below_drewN | apply below_drew1) | exact HB.out)⟩
        · rw [if_neg c13] at H
          have c13b0 : (t189.toList == t191.toList) = false := beq_eq_false_iff_ne.mpr c13
          have c13b1 : (t189.toList != t191.toList) = true := bne_iff_ne.mpr c13
          obtain rfl := Option.some.inj H
          go_enter Try.func7, Try.ntmps7
          go_wp2_with (first | ((with_reducible refine gate_callee (f := 9) rfl ?_); refine goesL_ (some 15) rfl rfl Try.func9 (by kernel_rfl) rfl #[] rfl (by (try simp only [List.map_toArray, List.map_cons, List.map_nil]); first | done | rfl | (simp only [List.length_drop, List.length_take]; rfl)) ?_; (with_reducible refine (escritoirelaw01_lives.calls  true _ A4.out).mono ?_); rintro e w32 ⟨rfl, hb⟩; refine ⟨_, rfl, ?_⟩; have n0_ := Aside0.mk (below_step (by repeat (first | (with_reducible first | exact HB.out | apply below_alloc | apply pw_below_drewN | apply below_drew1) | exact HB.out)) hb); clear HB; have HB := n0_; clear n0_; (try clear hb); (try clear hb2); (try clear hk); (try clear hi)) | ((with_reducible refine gate_callee (f := 15) rfl ?_); refine goesL_ (some 20) rfl rfl Try.func15 (by kernel_rfl) rfl #[.string a0, .int .i64 a1] rfl (by (try simp only [List.map_toArray, List.map_cons, List.map_nil]); first | done | rfl | (simp only [List.length_drop, List.length_take]; rfl)) ?_; (with_reducible refine (words_Text.calls a0 a1 t181 t182 _ A6.out).mono ?_); rintro e w33 ⟨v183, rfl, ho0, hb⟩; refine ⟨_, rfl, ?_⟩; have n0_ := Aside0.mk (Kd.R_lower ho0 (below_size (by repeat (first | (with_reducible first | exact HB.out | apply below_alloc | apply pw_below_drewN | apply below_drew1) | exact HB.out)))); have n1_ := Aside0.mk (below_step (by repeat (first | (with_reducible first | exact HB.out | apply below_alloc | apply pw_below_drewN | apply below_drew1) | exact HB.out)) hb); clear HB; have HO184 := n0_; have HB := n1_; clear n0_ n1_; (try clear hb); (try clear hb2); (try clear hk); (try clear hi); (try clear ho0)) | ((with_reducible refine gate_callee (f := 16) rfl ?_); refine goesL_ (some 26) rfl rfl Try.func16 (by kernel_rfl) rfl #[.string a0, .int .i64 a1] rfl (by (try simp only [List.map_toArray, List.map_cons, List.map_nil]); first | done | rfl | (simp only [List.length_drop, List.length_take]; rfl)) ?_; (with_reducible refine (escritoireref01_Text.calls k a0 a1 t185 t186 _ A7.out).mono ?_); rintro e w34 ⟨v187, rfl, ho0, hb⟩; refine ⟨_, rfl, ?_⟩; have n0_ := Aside0.mk (Kd.R_elder' (by (with_reducible repeat (first | apply Kd.R_alloc | apply Kd.R_drewN | apply Kd.R_drew)); exact HO184.out) (Kd.R_base ho0) hb); have n1_ := Aside0.mk (Kd.R_lower (Kd.R_new' ho0 (Kd.R_lt (by (with_reducible repeat (first | apply Kd.R_alloc | apply Kd.R_drewN | apply Kd.R_drew)); exact HO184.out))) (below_size (by repeat (first | (with_reducible first | exact HB.out | apply below_alloc | apply pw_below_drewN | apply below_drew1) | exact HB.out)))); have n2_ := Aside0.mk (below_step (by repeat (first | (with_reducible first | exact HB.out | apply below_alloc | apply pw_below_drewN | apply below_drew1) | exact HB.out)) hb); clear HO184; clear HB; have HO184 := n0_; have HO188 := n1_; have HB := n2_; clear n0_ n1_ n2_; (try clear hb); (try clear hb2); (try clear hk); (try clear hi); (try clear ho0)) | ((with_reducible refine gate_callee (f := 17) rfl ?_); refine goesL_ (some 32) rfl rfl Try.func17 (by kernel_rfl) rfl #[.slice A2 l2.length c2, .int .i64 a1] rfl (by (try simp only [List.map_toArray, List.map_cons, List.map_nil]); first | done | rfl | (simp only [List.length_drop, List.length_take]; rfl)) ?_; (with_reducible refine (words_Untext.calls k _ _ l2 a1 t189 t190 _ ?side1 ?side2 A8.out).mono ?_); (case side1 => repeat (first | exact (Kd.C_below HR2.out HB.out) | (with_reducible refine Kd.C_alloc ?_ _) | (with_reducible refine Kd.C_drewN ?_ _) | (with_reducible refine Kd.C_drew ?_))); (case side2 => exact HC2.out); rintro e w35 ⟨rfl, hb⟩; refine ⟨_, rfl, ?_⟩; have n0_ := Aside0.mk (Kd.R_below (by (with_reducible repeat (first | apply Kd.R_alloc | apply Kd.R_drewN | apply Kd.R_drew)); exact HO184.out) hb); have n1_ := Aside0.mk (Kd.R_below (by (with_reducible repeat (first | apply Kd.R_alloc | apply Kd.R_drewN | apply Kd.R_drew)); exact HO188.out) hb); have n2_ := Aside0.mk (below_step (by repeat (first | (with_reducible first | exact HB.out | apply below_alloc | apply pw_below_drewN | apply below_drew1) | exact HB.out)) hb); clear HO184; clear HO188; clear HB; have HO184 := n0_; have HO188 := n1_; have HB := n2_; clear n0_ n1_ n2_; (try clear hb); (try clear hb2); (try clear hk); (try clear hi)) | ((with_reducible refine gate_callee (f := 18) rfl ?_); refine goesL_ (some 38) rfl rfl Try.func18 (by kernel_rfl) rfl #[.slice A2 l2.length c2, .int .i64 a1] rfl (by (try simp only [List.map_toArray, List.map_cons, List.map_nil]); first | done | rfl | (simp only [List.length_drop, List.length_take]; rfl)) ?_; (with_reducible refine (escritoireref01_Untext.calls k _ _ l2 a1 t191 t192 _ ?side1 ?side2 A9.out).mono ?_); (case side1 => repeat (first | exact (Kd.C_below HR2.out HB.out) | (with_reducible refine Kd.C_alloc ?_ _) | (with_reducible refine Kd.C_drewN ?_ _) | (with_reducible refine Kd.C_drew ?_))); (case side2 => exact HC2.out); rintro e w36 ⟨rfl, hb⟩; refine ⟨_, rfl, ?_⟩; have n0_ := Aside0.mk (Kd.R_below (by (with_reducible repeat (first | apply Kd.R_alloc | apply Kd.R_drewN | apply Kd.R_drew)); exact HO184.out) hb); have n1_ := Aside0.mk (Kd.R_below (by (with_reducible repeat (first | apply Kd.R_alloc | apply Kd.R_drewN | apply Kd.R_drew)); exact HO188.out) hb); have n2_ := Aside0.mk (below_step (by repeat (first | (with_reducible first | exact HB.out | apply below_alloc | apply pw_below_drewN | apply below_drew1) | exact HB.out)) hb); clear HO184; clear HO188; clear HB; have HO184 := n0_; have HO188 := n1_; have HB := n2_; clear n0_ n1_ n2_; (try clear hb); (try clear hb2); (try clear hk); (try clear hi); obtain ⟨Ao37, co37, eo37⟩ := Kd.R_slice HO184.out; subst eo37; obtain ⟨Ao38, co38, eo38⟩ := Kd.R_slice HO188.out; subst eo38) | ((with_reducible refine gate_callee (f := 19) rfl ?_); refine goesL_ (some 43) rfl rfl Try.func19 (by kernel_rfl) rfl #[.slice Ao37 t181.length co37, .slice Ao38 t185.length co38] rfl (by (try simp only [List.map_toArray, List.map_cons, List.map_nil]); first | done | rfl | (simp only [List.length_drop, List.length_take]; rfl)) ?_; (with_reducible refine (escritoireref01_Same.calls k _ _ t181 _ _ t185 true _ ?side1 ?side2 ?side3 ?side4 A10.out).mono ?_); (case side1 => repeat (first | exact (Kd.R_reads' HO184.out).2.2 | (with_reducible refine Kd.C_alloc ?_ _) | (with_reducible refine Kd.C_drewN ?_ _) | (with_reducible refine Kd.C_drew ?_))); (case side2 => exact (Kd.R_reads' HO184.out).2.1); (case side3 => repeat (first | exact (Kd.R_reads' HO188.out).2.2 | (with_reducible refine Kd.C_alloc ?_ _) | (with_reducible refine Kd.C_drewN ?_ _) | (with_reducible refine Kd.C_drew ?_))); (case side4 => exact (Kd.R_reads' HO188.out).2.1); rintro e w' ⟨rfl, ⟨nd, rfl⟩⟩; refine ⟨_, rfl, ?_⟩))
          go_ret
          exact ⟨by first | rfl | (simp [errW_none, errW_some] <;> rfl) | (simp [*, errW_none, errW_some] <;> rfl), by repeat (first | (with_reducible first | exact HB.out | apply below_alloc | apply pw_below_drewN | apply below_drew1) | exact HB.out)⟩
      · rw [if_neg c12] at H
        have c12b0 : (t182 == t186) = false := beq_eq_false_iff_ne.mpr c12
        have c12b1 : (t182 != t186) = true := bne_iff_ne.mpr c12
        obtain rfl := Option.some.inj H
        go_enter Try.func7, Try.ntmps7
        go_wp2_with (first | ((with_reducible refine gate_callee (f := 9) rfl ?_); refine goesL_ (some 15) rfl rfl Try.func9 (by kernel_rfl) rfl #[] rfl (by (try simp only [List.map_toArray, List.map_cons, List.map_nil]); first | done | rfl | (simp only [List.length_drop, List.length_take]; rfl)) ?_; (with_reducible refine (escritoirelaw01_lives.calls  true _ A4.out).mono ?_); rintro e w39 ⟨rfl, hb⟩; refine ⟨_, rfl, ?_⟩; have n0_ := Aside0.mk (below_step (by repeat (first | (with_reducible first | exact HB.out | apply below_alloc | apply pw_below_drewN | apply below_drew1) | exact HB.out)) hb); clear HB; have HB := n0_; clear n0_; (try clear hb); (try clear hb2); (try clear hk); (try clear hi)) | ((with_reducible refine gate_callee (f := 15) rfl ?_); refine goesL_ (some 20) rfl rfl Try.func15 (by kernel_rfl) rfl #[.string a0, .int .i64 a1] rfl (by (try simp only [List.map_toArray, List.map_cons, List.map_nil]); first | done | rfl | (simp only [List.length_drop, List.length_take]; rfl)) ?_; (with_reducible refine (words_Text.calls a0 a1 t181 t182 _ A6.out).mono ?_); rintro e w40 ⟨v183, rfl, ho0, hb⟩; refine ⟨_, rfl, ?_⟩; have n0_ := Aside0.mk (Kd.R_lower ho0 (below_size (by repeat (first | (with_reducible first | exact HB.out | apply below_alloc | apply pw_below_drewN | apply below_drew1) | exact HB.out)))); have n1_ := Aside0.mk (below_step (by repeat (first | (with_reducible first | exact HB.out | apply below_alloc | apply pw_below_drewN | apply below_drew1) | exact HB.out)) hb); clear HB; have HO184 := n0_; have HB := n1_; clear n0_ n1_; (try clear hb); (try clear hb2); (try clear hk); (try clear hi); (try clear ho0)) | ((with_reducible refine gate_callee (f := 16) rfl ?_); refine goesL_ (some 26) rfl rfl Try.func16 (by kernel_rfl) rfl #[.string a0, .int .i64 a1] rfl (by (try simp only [List.map_toArray, List.map_cons, List.map_nil]); first | done | rfl | (simp only [List.length_drop, List.length_take]; rfl)) ?_; (with_reducible refine (escritoireref01_Text.calls k a0 a1 t185 t186 _ A7.out).mono ?_); rintro e w41 ⟨v187, rfl, ho0, hb⟩; refine ⟨_, rfl, ?_⟩; have n0_ := Aside0.mk (Kd.R_elder' (by (with_reducible repeat (first | apply Kd.R_alloc | apply Kd.R_drewN | apply Kd.R_drew)); exact HO184.out) (Kd.R_base ho0) hb); have n1_ := Aside0.mk (Kd.R_lower (Kd.R_new' ho0 (Kd.R_lt (by (with_reducible repeat (first | apply Kd.R_alloc | apply Kd.R_drewN | apply Kd.R_drew)); exact HO184.out))) (below_size (by repeat (first | (with_reducible first | exact HB.out | apply below_alloc | apply pw_below_drewN | apply below_drew1) | exact HB.out)))); have n2_ := Aside0.mk (below_step (by repeat (first | (with_reducible first | exact HB.out | apply below_alloc | apply pw_below_drewN | apply below_drew1) | exact HB.out)) hb); clear HO184; clear HB; have HO184 := n0_; have HO188 := n1_; have HB := n2_; clear n0_ n1_ n2_; (try clear hb); (try clear hb2); (try clear hk); (try clear hi); (try clear ho0)) | ((with_reducible refine gate_callee (f := 17) rfl ?_); refine goesL_ (some 32) rfl rfl Try.func17 (by kernel_rfl) rfl #[.slice A2 l2.length c2, .int .i64 a1] rfl (by (try simp only [List.map_toArray, List.map_cons, List.map_nil]); first | done | rfl | (simp only [List.length_drop, List.length_take]; rfl)) ?_; (with_reducible refine (words_Untext.calls k _ _ l2 a1 t189 t190 _ ?side1 ?side2 A8.out).mono ?_); (case side1 => repeat (first | exact (Kd.C_below HR2.out HB.out) | (with_reducible refine Kd.C_alloc ?_ _) | (with_reducible refine Kd.C_drewN ?_ _) | (with_reducible refine Kd.C_drew ?_))); (case side2 => exact HC2.out); rintro e w42 ⟨rfl, hb⟩; refine ⟨_, rfl, ?_⟩; have n0_ := Aside0.mk (Kd.R_below (by (with_reducible repeat (first | apply Kd.R_alloc | apply Kd.R_drewN | apply Kd.R_drew)); exact HO184.out) hb); have n1_ := Aside0.mk (Kd.R_below (by (with_reducible repeat (first | apply Kd.R_alloc | apply Kd.R_drewN | apply Kd.R_drew)); exact HO188.out) hb); have n2_ := Aside0.mk (below_step (by repeat (first | (with_reducible first | exact HB.out | apply below_alloc | apply pw_below_drewN | apply below_drew1) | exact HB.out)) hb); clear HO184; clear HO188; clear HB; have HO184 := n0_; have HO188 := n1_; have HB := n2_; clear n0_ n1_ n2_; (try clear hb); (try clear hb2); (try clear hk); (try clear hi)) | ((with_reducible refine gate_callee (f := 18) rfl ?_); refine goesL_ (some 38) rfl rfl Try.func18 (by kernel_rfl) rfl #[.slice A2 l2.length c2, .int .i64 a1] rfl (by (try simp only [List.map_toArray, List.map_cons, List.map_nil]); first | done | rfl | (simp only [List.length_drop, List.length_take]; rfl)) ?_; (with_reducible refine (escritoireref01_Untext.calls k _ _ l2 a1 t191 t192 _ ?side1 ?side2 A9.out).mono ?_); (case side1 => repeat (first | exact (Kd.C_below HR2.out HB.out) | (with_reducible refine Kd.C_alloc ?_ _) | (with_reducible refine Kd.C_drewN ?_ _) | (with_reducible refine Kd.C_drew ?_))); (case side2 => exact HC2.out); rintro e w43 ⟨rfl, hb⟩; refine ⟨_, rfl, ?_⟩; have n0_ := Aside0.mk (Kd.R_below (by (with_reducible repeat (first | apply Kd.R_alloc | apply Kd.R_drewN | apply Kd.R_drew)); exact HO184.out) hb); have n1_ := Aside0.mk (Kd.R_below (by (with_reducible repeat (first | apply Kd.R_alloc | apply Kd.R_drewN | apply Kd.R_drew)); exact HO188.out) hb); have n2_ := Aside0.mk (below_step (by repeat (first | (with_reducible first | exact HB.out | apply below_alloc | apply pw_below_drewN | apply below_drew1) | exact HB.out)) hb); clear HO184; clear HO188; clear HB; have HO184 := n0_; have HO188 := n1_; have HB := n2_; clear n0_ n1_ n2_; (try clear hb); (try clear hb2); (try clear hk); (try clear hi); obtain ⟨Ao44, co44, eo44⟩ := Kd.R_slice HO184.out; subst eo44; obtain ⟨Ao45, co45, eo45⟩ := Kd.R_slice HO188.out; subst eo45) | ((with_reducible refine gate_callee (f := 19) rfl ?_); refine goesL_ (some 43) rfl rfl Try.func19 (by kernel_rfl) rfl #[.slice Ao44 t181.length co44, .slice Ao45 t185.length co45] rfl (by (try simp only [List.map_toArray, List.map_cons, List.map_nil]); first | done | rfl | (simp only [List.length_drop, List.length_take]; rfl)) ?_; (with_reducible refine (escritoireref01_Same.calls k _ _ t181 _ _ t185 true _ ?side1 ?side2 ?side3 ?side4 A10.out).mono ?_); (case side1 => repeat (first | exact (Kd.R_reads' HO184.out).2.2 | (with_reducible refine Kd.C_alloc ?_ _) | (with_reducible refine Kd.C_drewN ?_ _) | (with_reducible refine Kd.C_drew ?_))); (case side2 => exact (Kd.R_reads' HO184.out).2.1); (case side3 => repeat (first | exact (Kd.R_reads' HO188.out).2.2 | (with_reducible refine Kd.C_alloc ?_ _) | (with_reducible refine Kd.C_drewN ?_ _) | (with_reducible refine Kd.C_drew ?_))); (case side4 => exact (Kd.R_reads' HO188.out).2.1); rintro e w' ⟨rfl, ⟨nd, rfl⟩⟩; refine ⟨_, rfl, ?_⟩))
        go_ret
        exact ⟨by first | rfl | (simp [errW_none, errW_some] <;> rfl) | (simp [*, errW_none, errW_some] <;> rfl), by repeat (first | (with_reducible first | exact HB.out | apply below_alloc | apply pw_below_drewN | apply below_drew1) | exact HB.out)⟩
    · replace c11 := Bool.eq_false_iff.mpr c11
      subst c11
      have H1 : (some false) = some r := by rw [if_neg (show ¬ (false = true) by decide)] at H; exact H
      clear H
      have H := H1
      clear H1
      obtain rfl := Option.some.inj H
      go_enter Try.func7, Try.ntmps7
      go_wp2_with (first | ((with_reducible refine gate_callee (f := 9) rfl ?_); refine goesL_ (some 15) rfl rfl Try.func9 (by kernel_rfl) rfl #[] rfl (by (try simp only [List.map_toArray, List.map_cons, List.map_nil]); first | done | rfl | (simp only [List.length_drop, List.length_take]; rfl)) ?_; (with_reducible refine (escritoirelaw01_lives.calls  true _ A4.out).mono ?_); rintro e w46 ⟨rfl, hb⟩; refine ⟨_, rfl, ?_⟩; have n0_ := Aside0.mk (below_step (by repeat (first | (with_reducible first | exact HB.out | apply below_alloc | apply pw_below_drewN | apply below_drew1) | exact HB.out)) hb); clear HB; have HB := n0_; clear n0_; (try clear hb); (try clear hb2); (try clear hk); (try clear hi)) | ((with_reducible refine gate_callee (f := 15) rfl ?_); refine goesL_ (some 20) rfl rfl Try.func15 (by kernel_rfl) rfl #[.string a0, .int .i64 a1] rfl (by (try simp only [List.map_toArray, List.map_cons, List.map_nil]); first | done | rfl | (simp only [List.length_drop, List.length_take]; rfl)) ?_; (with_reducible refine (words_Text.calls a0 a1 t181 t182 _ A6.out).mono ?_); rintro e w47 ⟨v183, rfl, ho0, hb⟩; refine ⟨_, rfl, ?_⟩; have n0_ := Aside0.mk (Kd.R_lower ho0 (below_size (by repeat (first | (with_reducible first | exact HB.out | apply below_alloc | apply pw_below_drewN | apply below_drew1) | exact HB.out)))); have n1_ := Aside0.mk (below_step (by repeat (first | (with_reducible first | exact HB.out | apply below_alloc | apply pw_below_drewN | apply below_drew1) | exact HB.out)) hb); clear HB; have HO184 := n0_; have HB := n1_; clear n0_ n1_; (try clear hb); (try clear hb2); (try clear hk); (try clear hi); (try clear ho0)) | ((with_reducible refine gate_callee (f := 16) rfl ?_); refine goesL_ (some 26) rfl rfl Try.func16 (by kernel_rfl) rfl #[.string a0, .int .i64 a1] rfl (by (try simp only [List.map_toArray, List.map_cons, List.map_nil]); first | done | rfl | (simp only [List.length_drop, List.length_take]; rfl)) ?_; (with_reducible refine (escritoireref01_Text.calls k a0 a1 t185 t186 _ A7.out).mono ?_); rintro e w48 ⟨v187, rfl, ho0, hb⟩; refine ⟨_, rfl, ?_⟩; have n0_ := Aside0.mk (Kd.R_elder' (by (with_reducible repeat (first | apply Kd.R_alloc | apply Kd.R_drewN | apply Kd.R_drew)); exact HO184.out) (Kd.R_base ho0) hb); have n1_ := Aside0.mk (Kd.R_lower (Kd.R_new' ho0 (Kd.R_lt (by (with_reducible repeat (first | apply Kd.R_alloc | apply Kd.R_drewN | apply Kd.R_drew)); exact HO184.out))) (below_size (by repeat (first | (with_reducible first | exact HB.out | apply below_alloc | apply pw_below_drewN | apply below_drew1) | exact HB.out)))); have n2_ := Aside0.mk (below_step (by repeat (first | (with_reducible first | exact HB.out | apply below_alloc | apply pw_below_drewN | apply below_drew1) | exact HB.out)) hb); clear HO184; clear HB; have HO184 := n0_; have HO188 := n1_; have HB := n2_; clear n0_ n1_ n2_; (try clear hb); (try clear hb2); (try clear hk); (try clear hi); (try clear ho0)) | ((with_reducible refine gate_callee (f := 17) rfl ?_); refine goesL_ (some 32) rfl rfl Try.func17 (by kernel_rfl) rfl #[.slice A2 l2.length c2, .int .i64 a1] rfl (by (try simp only [List.map_toArray, List.map_cons, List.map_nil]); first | done | rfl | (simp only [List.length_drop, List.length_take]; rfl)) ?_; (with_reducible refine (words_Untext.calls k _ _ l2 a1 t189 t190 _ ?side1 ?side2 A8.out).mono ?_); (case side1 => repeat (first | exact (Kd.C_below HR2.out HB.out) | (with_reducible refine Kd.C_alloc ?_ _) | (with_reducible refine Kd.C_drewN ?_ _) | (with_reducible refine Kd.C_drew ?_))); (case side2 => exact HC2.out); rintro e w49 ⟨rfl, hb⟩; refine ⟨_, rfl, ?_⟩; have n0_ := Aside0.mk (Kd.R_below (by (with_reducible repeat (first | apply Kd.R_alloc | apply Kd.R_drewN | apply Kd.R_drew)); exact HO184.out) hb); have n1_ := Aside0.mk (Kd.R_below (by (with_reducible repeat (first | apply Kd.R_alloc | apply Kd.R_drewN | apply Kd.R_drew)); exact HO188.out) hb); have n2_ := Aside0.mk (below_step (by repeat (first | (with_reducible first | exact HB.out | apply below_alloc | apply pw_below_drewN | apply below_drew1) | exact HB.out)) hb); clear HO184; clear HO188; clear HB; have HO184 := n0_; have HO188 := n1_; have HB := n2_; clear n0_ n1_ n2_; (try clear hb); (try clear hb2); (try clear hk); (try clear hi)) | ((with_reducible refine gate_callee (f := 18) rfl ?_); refine goesL_ (some 38) rfl rfl Try.func18 (by kernel_rfl) rfl #[.slice A2 l2.length c2, .int .i64 a1] rfl (by (try simp only [List.map_toArray, List.map_cons, List.map_nil]); first | done | rfl | (simp only [List.length_drop, List.length_take]; rfl)) ?_; (with_reducible refine (escritoireref01_Untext.calls k _ _ l2 a1 t191 t192 _ ?side1 ?side2 A9.out).mono ?_); (case side1 => repeat (first | exact (Kd.C_below HR2.out HB.out) | (with_reducible refine Kd.C_alloc ?_ _) | (with_reducible refine Kd.C_drewN ?_ _) | (with_reducible refine Kd.C_drew ?_))); (case side2 => exact HC2.out); rintro e w50 ⟨rfl, hb⟩; refine ⟨_, rfl, ?_⟩; have n0_ := Aside0.mk (Kd.R_below (by (with_reducible repeat (first | apply Kd.R_alloc | apply Kd.R_drewN | apply Kd.R_drew)); exact HO184.out) hb); have n1_ := Aside0.mk (Kd.R_below (by (with_reducible repeat (first | apply Kd.R_alloc | apply Kd.R_drewN | apply Kd.R_drew)); exact HO188.out) hb); have n2_ := Aside0.mk (below_step (by repeat (first | (with_reducible first | exact HB.out | apply below_alloc | apply pw_below_drewN | apply below_drew1) | exact HB.out)) hb); clear HO184; clear HO188; clear HB; have HO184 := n0_; have HO188 := n1_; have HB := n2_; clear n0_ n1_ n2_; (try clear hb); (try clear hb2); (try clear hk); (try clear hi); obtain ⟨Ao51, co51, eo51⟩ := Kd.R_slice HO184.out; subst eo51; obtain ⟨Ao52, co52, eo52⟩ := Kd.R_slice HO188.out; subst eo52) | ((with_reducible refine gate_callee (f := 19) rfl ?_); refine goesL_ (some 43) rfl rfl Try.func19 (by kernel_rfl) rfl #[.slice Ao51 t181.length co51, .slice Ao52 t185.length co52] rfl (by (try simp only [List.map_toArray, List.map_cons, List.map_nil]); first | done | rfl | (simp only [List.length_drop, List.length_take]; rfl)) ?_; (with_reducible refine (escritoireref01_Same.calls k _ _ t181 _ _ t185 false _ ?side1 ?side2 ?side3 ?side4 A10.out).mono ?_); (case side1 => repeat (first | exact (Kd.R_reads' HO184.out).2.2 | (with_reducible refine Kd.C_alloc ?_ _) | (with_reducible refine Kd.C_drewN ?_ _) | (with_reducible refine Kd.C_drew ?_))); (case side2 => exact (Kd.R_reads' HO184.out).2.1); (case side3 => repeat (first | exact (Kd.R_reads' HO188.out).2.2 | (with_reducible refine Kd.C_alloc ?_ _) | (with_reducible refine Kd.C_drewN ?_ _) | (with_reducible refine Kd.C_drew ?_))); (case side4 => exact (Kd.R_reads' HO188.out).2.1); rintro e w' ⟨rfl, ⟨nd, rfl⟩⟩; refine ⟨_, rfl, ?_⟩))
      go_ret
      exact ⟨by first | rfl | (simp [errW_none, errW_some] <;> rfl) | (simp [*, errW_none, errW_some] <;> rfl), by repeat (first | (with_reducible first | exact HB.out | apply below_alloc | apply pw_below_drewN | apply below_drew1) | exact HB.out)⟩
  · replace c5 := Bool.eq_false_iff.mpr c5
    subst c5
    have H1 : (some false) = some r := by rw [if_neg (show ¬ (false = true) by decide)] at H; exact H
    clear H
    have H := H1
    clear H1
    obtain rfl := Option.some.inj H
    go_enter Try.func7, Try.ntmps7
    go_wp2_with (first | ((with_reducible refine gate_callee (f := 9) rfl ?_); refine goesL_ (some 15) rfl rfl Try.func9 (by kernel_rfl) rfl #[] rfl (by (try simp only [List.map_toArray, List.map_cons, List.map_nil]); first | done | rfl | (simp only [List.length_drop, List.length_take]; rfl)) ?_; (with_reducible refine (escritoirelaw01_lives.calls  false _ A4.out).mono ?_); rintro e w53 ⟨rfl, hb⟩; refine ⟨_, rfl, ?_⟩; have n0_ := Aside0.mk (below_step (by repeat (first | (with_reducible first | exact HB.out | apply below_alloc | apply pw_below_drewN | apply below_drew1) | exact HB.out)) hb); clear HB; have HB := n0_; clear n0_; (try clear hb); (try clear hb2); (try clear hk); (try clear hi)))
    go_ret
    exact ⟨by first | rfl | (simp [errW_none, errW_some] <;> rfl) | (simp [*, errW_none, errW_some] <;> rfl), by repeat (first | (with_reducible first | exact HB.out | apply below_alloc | apply pw_below_drewN | apply below_drew1) | exact HB.out)⟩

/-! ### escritoirelaw01_WordsTextBack: function 8 -/
mutual
def escritoirelaw01_WordsTextBack.j0 : Nat → ByteArray → List Int → ByteArray → Bool → Option (Bool)
  | 0, _, _, _, _ => none
  | k + 1, x0, x2, x9, x49 => if x49 = true then (some false) else (escritoirelaw01_WordsTextBack.l0 k x2 x9 (x0.size : Int))
def escritoirelaw01_WordsTextBack.l0 : Nat → List Int → ByteArray → Int → Option (Bool)
  | 0, _, _, _ => none
  | k + 1, x2, x9, x11 => if x11 < (x9.size : Int) then (if 0 ≤ x11 then (if (bt x9 x11) = 0 then (escritoirelaw01_WordsTextBack.l0 k x2 x9 (wrap64 (x11 + 1))) else (some false)) else (none)) else (if 0 ≤ (mn (x2.length : Int) 64) then (if (mn (x2.length : Int) 64) ≤ (x2.length : Int) then ((some (x2.take ((mn (x2.length : Int) 64) : Int).toNat : List Int)).bind fun y203 => ((words_Untext.f k y203 (wrap64 (8 * (y203.length : Int)))).bind fun bt207 => ((words_Text.f bt207.1 (y203.length : Int)).bind fun bt209 => (if bt207.2 = 0 then (if bt209.2 = 0 then ((escritoireref01_Same.f k bt209.1 y203).bind fun t213 => (some t213)) else (some false)) else (some false))))) else (none)) else (none))
end
def escritoirelaw01_WordsTextBack.f (k : Nat) (a0 : ByteArray) (a1 : Int) (l2 : List Int) : Option (Bool) := (escritoirelaw01_lives.f).bind fun t196 => (if t196 = true then ((words_Text.f a0 a1).bind fun bt197 => (if bt197.2 = 0 then ((words_Untext.f k bt197.1 (wrap64 (8 * a1))).bind fun bt201 => (if bt201.2 = 0 then (if (bt201.1.size : Int) = (wrap64 (8 * a1)) then (if 0 ≤ (a0.size : Int) then (if (a0.size : Int) ≤ (bt201.1.size : Int) then (escritoirelaw01_WordsTextBack.j0 k a0 l2 bt201.1 ((bt201.1.extract 0 ((a0.size : Int) : Int).toNat).toList != a0.toList)) else (none)) else (none)) else (escritoirelaw01_WordsTextBack.j0 k a0 l2 bt201.1 true)) else (escritoirelaw01_WordsTextBack.j0 k a0 l2 bt201.1 true))) else (if 0 ≤ (mn (l2.length : Int) 64) then (if (mn (l2.length : Int) 64) ≤ (l2.length : Int) then ((some (l2.take ((mn (l2.length : Int) 64) : Int).toNat : List Int)).bind fun y214 => ((words_Untext.f k y214 (wrap64 (8 * (y214.length : Int)))).bind fun bt218 => ((words_Text.f bt218.1 (y214.length : Int)).bind fun bt220 => (if bt218.2 = 0 then (if bt220.2 = 0 then ((escritoireref01_Same.f k bt220.1 y214).bind fun t224 => (some t224)) else (some false)) else (some false))))) else (none)) else (none)))) else (some false))
theorem escritoirelaw01_WordsTextBack.mono_l : ∀ k, (∀ y0 y1 y2 y3, LeO (escritoirelaw01_WordsTextBack.j0 k y0 y1 y2 y3) (escritoirelaw01_WordsTextBack.j0 (k + 1) y0 y1 y2 y3)) ∧ (∀ y0 y1 y2, LeO (escritoirelaw01_WordsTextBack.l0 k y0 y1 y2) (escritoirelaw01_WordsTextBack.l0 (k + 1) y0 y1 y2))
  | 0 => ⟨fun _ _ _ _ r h => by simp [escritoirelaw01_WordsTextBack.j0] at h, fun _ _ _ r h => by simp [escritoirelaw01_WordsTextBack.l0] at h⟩
  | k + 1 => by
    obtain ⟨ih0, ih1⟩ := escritoirelaw01_WordsTextBack.mono_l k
    refine ⟨?_, ?_⟩
    · intro y0 y1 y2 y3
      unfold escritoirelaw01_WordsTextBack.j0
      repeat' first
      | (with_reducible exact ih0 _ _ _ _)
      | (with_reducible exact ih1 _ _ _)
      | (with_reducible exact escritoireref01_Same.mono _ _ _)
      | (with_reducible exact words_Untext.mono _ _ _)
      | (with_reducible exact LeO.refl _)
      | (with_reducible exact LeO.none _)
      | (with_reducible refine LeO.ite ?_ ?_)
      | (with_reducible refine LeO.bind ?_ (fun _ => ?_))
      | exact ih0 _ _ _ _
      | exact ih1 _ _ _
      | exact escritoireref01_Same.mono _ _ _
      | exact words_Untext.mono _ _ _
      | exact LeO.none _
      | refine LeO.ite ?_ ?_
      | refine LeO.bind ?_ (fun _ => ?_)
    · intro y0 y1 y2
      unfold escritoirelaw01_WordsTextBack.l0
      repeat' first
      | (with_reducible exact ih0 _ _ _ _)
      | (with_reducible exact ih1 _ _ _)
      | (with_reducible exact escritoireref01_Same.mono _ _ _)
      | (with_reducible exact words_Untext.mono _ _ _)
      | (with_reducible exact LeO.refl _)
      | (with_reducible exact LeO.none _)
      | (with_reducible refine LeO.ite ?_ ?_)
      | (with_reducible refine LeO.bind ?_ (fun _ => ?_))
      | exact ih0 _ _ _ _
      | exact ih1 _ _ _
      | exact escritoireref01_Same.mono _ _ _
      | exact words_Untext.mono _ _ _
      | exact LeO.none _
      | refine LeO.ite ?_ ?_
      | refine LeO.bind ?_ (fun _ => ?_)
theorem escritoirelaw01_WordsTextBack.mono : ∀ a0 a1 a2 k, LeO (escritoirelaw01_WordsTextBack.f k a0 a1 a2) (escritoirelaw01_WordsTextBack.f (k + 1) a0 a1 a2) := by
  intro a0 a1 a2 k
  obtain ⟨ih0, ih1⟩ := escritoirelaw01_WordsTextBack.mono_l k
  unfold escritoirelaw01_WordsTextBack.f
  repeat' first
      | (with_reducible exact ih0 _ _ _ _)
      | (with_reducible exact ih1 _ _ _)
      | (with_reducible exact escritoireref01_Same.mono _ _ _)
      | (with_reducible exact words_Untext.mono _ _ _)
      | (with_reducible exact LeO.refl _)
      | (with_reducible exact LeO.none _)
      | (with_reducible refine LeO.ite ?_ ?_)
      | (with_reducible refine LeO.bind ?_ (fun _ => ?_))
      | exact ih0 _ _ _ _
      | exact ih1 _ _ _
      | exact escritoireref01_Same.mono _ _ _
      | exact words_Untext.mono _ _ _
      | exact LeO.none _
      | refine LeO.ite ?_ ?_
      | refine LeO.bind ?_ (fun _ => ?_)
set_option maxHeartbeats 8000000 in
set_option maxRecDepth 100000 in
theorem escritoirelaw01_WordsTextBack.calls (k : Nat) (a0 : ByteArray) (a1 : Int) (A2 : Option Addr) (c2 : Nat) (l2 : List Int) (r : Bool) (w : World) (hr2 : Kd.C (Kd.int .u64) w A2 l2.length l2) (hc2 : l2.length ≤ c2) (h : escritoirelaw01_WordsTextBack.f k a0 a1 l2 = some r) :
    Calls Try.prog 8 #[.string a0, .int .i64 a1, .slice A2 l2.length c2] w fun e w' => e = .returned (.bool r) ∧ Below w.heap.size w w' := by
  have HR2 := Aside0.mk hr2
  have HC2 := Aside0.mk hc2
  clear hr2 hc2
  have HB := Aside0.mk (Below.refl w.heap.size w)
  have H : ((escritoirelaw01_lives.f).bind fun t196 => (if t196 = true then ((words_Text.f a0 a1).bind fun bt197 => (if bt197.2 = 0 then ((words_Untext.f k bt197.1 (wrap64 (8 * a1))).bind fun bt201 => (if bt201.2 = 0 then (if (bt201.1.size : Int) = (wrap64 (8 * a1)) then (if 0 ≤ (a0.size : Int) then (if (a0.size : Int) ≤ (bt201.1.size : Int) then (escritoirelaw01_WordsTextBack.j0 k a0 l2 bt201.1 ((bt201.1.extract 0 ((a0.size : Int) : Int).toNat).toList != a0.toList)) else (none)) else (none)) else (escritoirelaw01_WordsTextBack.j0 k a0 l2 bt201.1 true)) else (escritoirelaw01_WordsTextBack.j0 k a0 l2 bt201.1 true))) else (if 0 ≤ (mn (l2.length : Int) 64) then (if (mn (l2.length : Int) 64) ≤ (l2.length : Int) then ((some (l2.take ((mn (l2.length : Int) 64) : Int).toNat : List Int)).bind fun y214 => ((words_Untext.f k y214 (wrap64 (8 * (y214.length : Int)))).bind fun bt218 => ((words_Text.f bt218.1 (y214.length : Int)).bind fun bt220 => (if bt218.2 = 0 then (if bt220.2 = 0 then ((escritoireref01_Same.f k bt220.1 y214).bind fun t224 => (some t224)) else (some false)) else (some false))))) else (none)) else (none)))) else (some false))) = some r := h
  clear h
  replace H := Option.bind_eq_some_iff.mp H
  obtain ⟨t196, A40, H⟩ := H
  replace H : (if t196 = true then ((words_Text.f a0 a1).bind fun bt197 => (if bt197.2 = 0 then ((words_Untext.f k bt197.1 (wrap64 (8 * a1))).bind fun bt201 => (if bt201.2 = 0 then (if (bt201.1.size : Int) = (wrap64 (8 * a1)) then (if 0 ≤ (a0.size : Int) then (if (a0.size : Int) ≤ (bt201.1.size : Int) then (escritoirelaw01_WordsTextBack.j0 k a0 l2 bt201.1 ((bt201.1.extract 0 ((a0.size : Int) : Int).toNat).toList != a0.toList)) else (none)) else (none)) else (escritoirelaw01_WordsTextBack.j0 k a0 l2 bt201.1 true)) else (escritoirelaw01_WordsTextBack.j0 k a0 l2 bt201.1 true))) else (if 0 ≤ (mn (l2.length : Int) 64) then (if (mn (l2.length : Int) 64) ≤ (l2.length : Int) then ((some (l2.take ((mn (l2.length : Int) 64) : Int).toNat : List Int)).bind fun y214 => ((words_Untext.f k y214 (wrap64 (8 * (y214.length : Int)))).bind fun bt218 => ((words_Text.f bt218.1 (y214.length : Int)).bind fun bt220 => (if bt218.2 = 0 then (if bt220.2 = 0 then ((escritoireref01_Same.f k bt220.1 y214).bind fun t224 => (some t224)) else (some false)) else (some false))))) else (none)) else (none)))) else (some false)) = some r := H
  have A4 := Aside0.mk A40
  clear A40
  by_cases c5 : t196 = true
  · subst c5
    have H1 : ((words_Text.f a0 a1).bind fun bt197 => (if bt197.2 = 0 then ((words_Untext.f k bt197.1 (wrap64 (8 * a1))).bind fun bt201 => (if bt201.2 = 0 then (if (bt201.1.size : Int) = (wrap64 (8 * a1)) then (if 0 ≤ (a0.size : Int) then (if (a0.size : Int) ≤ (bt201.1.size : Int) then (escritoirelaw01_WordsTextBack.j0 k a0 l2 bt201.1 ((bt201.1.extract 0 ((a0.size : Int) : Int).toNat).toList != a0.toList)) else (none)) else (none)) else (escritoirelaw01_WordsTextBack.j0 k a0 l2 bt201.1 true)) else (escritoirelaw01_WordsTextBack.j0 k a0 l2 bt201.1 true))) else (if 0 ≤ (mn (l2.length : Int) 64) then (if (mn (l2.length : Int) 64) ≤ (l2.length : Int) then ((some (l2.take ((mn (l2.length : Int) 64) : Int).toNat : List Int)).bind fun y214 => ((words_Untext.f k y214 (wrap64 (8 * (y214.length : Int)))).bind fun bt218 => ((words_Text.f bt218.1 (y214.length : Int)).bind fun bt220 => (if bt218.2 = 0 then (if bt220.2 = 0 then ((escritoireref01_Same.f k bt220.1 y214).bind fun t224 => (some t224)) else (some false)) else (some false))))) else (none)) else (none)))) = some r := by rw [if_pos rfl] at H; exact H
    clear H
    have H := H1
    clear H1
    replace H := Option.bind_eq_some_iff.mp H
    obtain ⟨⟨t197, t198⟩, A60, H⟩ := H
    replace H : (if t198 = 0 then ((words_Untext.f k t197 (wrap64 (8 * a1))).bind fun bt201 => (if bt201.2 = 0 then (if (bt201.1.size : Int) = (wrap64 (8 * a1)) then (if 0 ≤ (a0.size : Int) then (if (a0.size : Int) ≤ (bt201.1.size : Int) then (escritoirelaw01_WordsTextBack.j0 k a0 l2 bt201.1 ((bt201.1.extract 0 ((a0.size : Int) : Int).toNat).toList != a0.toList)) else (none)) else (none)) else (escritoirelaw01_WordsTextBack.j0 k a0 l2 bt201.1 true)) else (escritoirelaw01_WordsTextBack.j0 k a0 l2 bt201.1 true))) else (if 0 ≤ (mn (l2.length : Int) 64) then (if (mn (l2.length : Int) 64) ≤ (l2.length : Int) then ((some (l2.take ((mn (l2.length : Int) 64) : Int).toNat : List Int)).bind fun y214 => ((words_Untext.f k y214 (wrap64 (8 * (y214.length : Int)))).bind fun bt218 => ((words_Text.f bt218.1 (y214.length : Int)).bind fun bt220 => (if bt218.2 = 0 then (if bt220.2 = 0 then ((escritoireref01_Same.f k bt220.1 y214).bind fun t224 => (some t224)) else (some false)) else (some false))))) else (none)) else (none))) = some r := H
    have A6 := Aside0.mk A60
    clear A60
    by_cases c7 : t198 = 0
    · rw [if_pos c7] at H
      have c7b0 : (t198 == 0) = true := beq_iff_eq.mpr c7
      have c7b1 : (t198 != 0) = false := bne_eq_false_iff_eq.mpr c7
      clear c7
      replace H := Option.bind_eq_some_iff.mp H
      obtain ⟨⟨t201, t202⟩, A80, H⟩ := H
      replace H : (if t202 = 0 then (if (t201.size : Int) = (wrap64 (8 * a1)) then (if 0 ≤ (a0.size : Int) then (if (a0.size : Int) ≤ (t201.size : Int) then (escritoirelaw01_WordsTextBack.j0 k a0 l2 t201 ((t201.extract 0 ((a0.size : Int) : Int).toNat).toList != a0.toList)) else (none)) else (none)) else (escritoirelaw01_WordsTextBack.j0 k a0 l2 t201 true)) else (escritoirelaw01_WordsTextBack.j0 k a0 l2 t201 true)) = some r := H
      have A8 := Aside0.mk A80
      clear A80
      have HC9 := Aside0.mk H
      clear H
      go_enter Try.func8, Try.ntmps8
      go_upto_region 6 with (first | ((with_reducible refine gate_callee (f := 9) rfl ?_); refine goesL_ (some 16) rfl rfl Try.func9 (by kernel_rfl) rfl #[] rfl (by (try simp only [List.map_toArray, List.map_cons, List.map_nil]); first | done | rfl | (simp only [List.length_drop, List.length_take]; rfl)) ?_; (with_reducible refine (escritoirelaw01_lives.calls  true _ A4.out).mono ?_); rintro e w10 ⟨rfl, hb⟩; refine ⟨_, rfl, ?_⟩; have n0_ := Aside0.mk (below_step (by repeat (first | (with_reducible first | exact HB.out | apply below_alloc | apply pw_below_drewN | apply below_drew1) | exact HB.out)) hb); clear HB; have HB := n0_; clear n0_; (try clear hb); (try clear hb2); (try clear hk); (try clear hi)) | ((with_reducible refine gate_callee (f := 15) rfl ?_); refine goesL_ (some 21) rfl rfl Try.func15 (by kernel_rfl) rfl #[.string a0, .int .i64 a1] rfl (by (try simp only [List.map_toArray, List.map_cons, List.map_nil]); first | done | rfl | (simp only [List.length_drop, List.length_take]; rfl)) ?_; (with_reducible refine (words_Text.calls a0 a1 t197 t198 _ A6.out).mono ?_); rintro e w11 ⟨v199, rfl, ho0, hb⟩; refine ⟨_, rfl, ?_⟩; have n0_ := Aside0.mk (Kd.R_lower ho0 (below_size (by repeat (first | (with_reducible first | exact HB.out | apply below_alloc | apply pw_below_drewN | apply below_drew1) | exact HB.out)))); have n1_ := Aside0.mk (below_step (by repeat (first | (with_reducible first | exact HB.out | apply below_alloc | apply pw_below_drewN | apply below_drew1) | exact HB.out)) hb); clear HB; have HO200 := n0_; have HB := n1_; clear n0_ n1_; (try clear hb); (try clear hb2); (try clear hk); (try clear hi); (try clear ho0); obtain ⟨Ao12, co12, eo12⟩ := Kd.R_slice HO200.out; subst eo12) | ((with_reducible refine gate_callee (f := 17) rfl ?_); refine goesL_ (some 30) rfl rfl Try.func17 (by kernel_rfl) rfl #[.slice Ao12 t197.length co12, .int .i64 (wrap64 (8 * a1))] rfl (by (try simp only [List.map_toArray, List.map_cons, List.map_nil]); first | done | rfl | (simp only [List.length_drop, List.length_take]; rfl)) ?_; (with_reducible refine (words_Untext.calls k _ _ t197 (wrap64 (8 * a1)) t201 t202 _ ?side1 ?side2 A8.out).mono ?_); (case side1 => repeat (first | exact (Kd.R_reads' HO200.out).2.2 | (with_reducible refine Kd.C_alloc ?_ _) | (with_reducible refine Kd.C_drewN ?_ _) | (with_reducible refine Kd.C_drew ?_))); (case side2 => exact (Kd.R_reads' HO200.out).2.1); rintro e w13 ⟨rfl, hb⟩; refine ⟨_, rfl, ?_⟩; have n0_ := Aside0.mk (Kd.R_below (by (with_reducible repeat (first | apply Kd.R_alloc | apply Kd.R_drewN | apply Kd.R_drew)); exact HO200.out) hb); have n1_ := Aside0.mk (below_step (by repeat (first | (with_reducible first | exact HB.out | apply below_alloc | apply pw_below_drewN | apply below_drew1) | exact HB.out)) hb); clear HO200; clear HB; have HO200 := n0_; have HB := n1_; clear n0_ n1_; (try clear hb); (try clear hb2); (try clear hk); (try clear hi)))
      (try simp only [Act.put, List.setIfInBounds_toArray, List.set_cons_zero, List.set_cons_succ])
      go_cut [49] (fun v49 wc => ∃ (kq : Nat) (x49_8 : Bool), v49 = .bool x49_8 ∧ Aside0 (escritoirelaw01_WordsTextBack.j0 kq a0 l2 t201 x49_8 = some r) ∧ Aside0 (kq ≤ k) ∧ Aside0 (Below w.heap.size w wc))
      case first =>
        have H := HC9.out
        clear HC9
        by_cases c14 : t202 = 0
        · rw [if_pos c14] at H
          have c14b0 : (t202 == 0) = true := beq_iff_eq.mpr c14
          have c14b1 : (t202 != 0) = false := bne_eq_false_iff_eq.mpr c14
          clear c14
          (first | rw [c14b0] | (simp only [i64_w, i32_w]; rw [c14b0]) | skip)
          by_cases c15 : (t201.size : Int) = (wrap64 (8 * a1))
          · rw [if_pos c15] at H
            have c15b0 : ((t201.size : Int) == (wrap64 (8 * a1))) = true := beq_iff_eq.mpr c15
            have c15b1 : ((t201.size : Int) != (wrap64 (8 * a1))) = false := bne_eq_false_iff_eq.mpr c15
            clear c15
            by_cases c16 : 0 ≤ (a0.size : Int)
            · rw [if_pos c16] at H
              have c16b0 := eq_true c16
              have c16b1 : decide (0 ≤ (a0.size : Int)) = true := decide_eq_true c16
              clear c16
              by_cases c17 : (a0.size : Int) ≤ (t201.size : Int)
              · rw [if_pos c17] at H
                have c17b0 := eq_true c17
                have c17b1 : decide ((a0.size : Int) ≤ (t201.size : Int)) = true := decide_eq_true c17
                clear c17
                have H' := Aside0.mk H
                clear H
                go_wp2
                go_meet
                case rel => exact ⟨_, (((t201.extract 0 ((a0.size : Int) : Int).toNat).toList != a0.toList)), (by first | rfl | (simp; done) | (simp [*]; done)), H', ⟨by first | omega | exact Nat.le_refl _⟩, ⟨by repeat (first | (with_reducible first | exact HB.out | apply below_alloc | apply pw_below_drewN | apply below_drew1) | exact HB.out)⟩⟩
              · rw [if_neg c17] at H
                exact absurd H (by simp)
            · rw [if_neg c16] at H
              exact absurd H (by simp)
          · rw [if_neg c15] at H
            have c15b0 : ((t201.size : Int) == (wrap64 (8 * a1))) = false := beq_eq_false_iff_ne.mpr c15
            have c15b1 : ((t201.size : Int) != (wrap64 (8 * a1))) = true := bne_iff_ne.mpr c15
            have H' := Aside0.mk H
            clear H
            go_wp2
            go_meet
            case rel => exact ⟨_, (true), (by first | rfl | (simp; done) | (simp [*]; done)), H', ⟨by first | omega | exact Nat.le_refl _⟩, ⟨by repeat (first | (with_reducible first | exact HB.out | apply below_alloc | apply pw_below_drewN | apply below_drew1) | exact HB.out)⟩⟩
        · rw [if_neg c14] at H
          have c14b0 : (t202 == 0) = false := beq_eq_false_iff_ne.mpr c14
          have c14b1 : (t202 != 0) = true := bne_iff_ne.mpr c14
          (first | rw [c14b0] | (simp only [i64_w, i32_w]; rw [c14b0]) | skip)
          have H' := Aside0.mk H
          clear H
          go_wp2
          go_meet
          case rel => exact ⟨_, (true), (by first | rfl | (simp; done) | (simp [*]; done)), H', ⟨by first | omega | exact Nat.le_refl _⟩, ⟨by repeat (first | (with_reducible first | exact HB.out | apply below_alloc | apply pw_below_drewN | apply below_drew1) | exact HB.out)⟩⟩
      case rest =>
        clear HC9
        try clear c1
        try clear c2
        try clear p2
        try clear c5
        try clear p6
        try clear c7
        try clear c7b0
        try clear c7b1
        try clear c8
        try clear c9
        try clear c14
        try clear c14b0
        try clear c14b1
        try clear c15
        try clear c15b0
        try clear c15b1
        try clear c16
        try clear c16b0
        try clear c16b1
        try clear c17
        try clear c17b0
        try clear c17b1
        obtain ⟨kq, x49_8, rfl, HA, HJ8, HB⟩ := hcut
        cases kq with
        | zero => exact absurd HA.out (by simp [escritoirelaw01_WordsTextBack.j0])
        | succ kj8 =>
          have H := HA.out
          clear HA
          simp only [escritoirelaw01_WordsTextBack.j0] at H
          by_cases c18 : x49_8 = true
          · subst c18
            have H1 : (some false) = some r := by rw [if_pos rfl] at H; exact H
            clear H
            have H := H1
            clear H1
            obtain rfl := Option.some.inj H
            go_wp2
            go_ret
            exact ⟨by first | rfl | (simp [errW_none, errW_some] <;> rfl) | (simp [*, errW_none, errW_some] <;> rfl), by repeat (first | (with_reducible first | exact HB.out | apply below_alloc | apply pw_below_drewN | apply below_drew1) | exact HB.out)⟩
          · replace c18 := Bool.eq_false_iff.mpr c18
            subst c18
            have H1 : (escritoirelaw01_WordsTextBack.l0 kj8 l2 t201 (a0.size : Int)) = some r := by rw [if_neg (show ¬ (false = true) by decide)] at H; exact H
            clear H
            have H := H1
            clear H1
            have H' := Aside0.mk H
            clear H
            go_wp2
            go_loopg [11] kj8 (fun kq v11 w' => ∃ (x11_2 : Int), v11 = .int .i64 x11_2 ∧ Aside0 (escritoirelaw01_WordsTextBack.l0 kq l2 t201 x11_2 = some r) ∧ Aside0 (kq ≤ kj8) ∧ Aside0 (Below w.heap.size w w'))
            case atStart => exact ⟨((a0.size : Int)), (by first | rfl | (simp; done) | (simp [*]; done)), H', ⟨Nat.le_refl _⟩, ⟨by repeat (first | (with_reducible first | exact HB.out | apply below_alloc | apply pw_below_drewN | apply below_drew1) | exact HB.out)⟩⟩
            case round =>
              clear H'
              try clear c1
              try clear c2
              try clear p2
              try clear c5
              try clear p6
              try clear c7
              try clear c7b0
              try clear c7b1
              try clear c8
              try clear c9
              try clear c14
              try clear c14b0
              try clear c14b1
              try clear c15
              try clear c15b0
              try clear c15b1
              try clear c16
              try clear c16b0
              try clear c16b1
              try clear c17
              try clear c17b0
              try clear c17b1
              try clear c18
              try clear p2
              try clear p6
              obtain ⟨x11_2, rfl, HA, HK2, HB⟩ := hrel
              cases gk with
              | zero => exact absurd HA.out (by simp [escritoirelaw01_WordsTextBack.l0])
              | succ k2 =>
                have H := HA.out
                clear HA
                simp only [escritoirelaw01_WordsTextBack.l0] at H
                by_cases c19 : x11_2 < (t201.size : Int)
                · rw [if_pos c19] at H
                  have c19b0 : decide (x11_2 < (t201.size : Int)) = true := decide_eq_true c19
                  clear c19
                  by_cases c20 : 0 ≤ x11_2
                  · rw [if_pos c20] at H
                    have c20b0 : decide (0 ≤ x11_2) = true := decide_eq_true c20
                    clear c20
                    by_cases c22 : (bt t201 x11_2) = 0
                    · rw [if_pos c22] at H
                      have c22b0 : ((bt t201 x11_2) == 0) = true := beq_iff_eq.mpr c22
                      have c22b1 : ((bt t201 x11_2) != 0) = false := bne_eq_false_iff_eq.mpr c22
                      clear c22
                      have H' := Aside0.mk H
                      clear H
                      have p21 : 0 ≤ (x11_2 : Int) := of_decide_eq_true (by first | (with_reducible assumption) | assumption)
                      have q21 : x11_2 < (t201.size : Int) := of_decide_eq_true (by first | (with_reducible assumption) | assumption)
                      have hx21 := bt_at t201 x11_2
                      replace p21 := eq_true p21
                      replace q21 := eq_true q21
                      go_wp2
                      go_roundg k2
                      case measure => have := HJ8.out; have := HK2.out; omega
                      case rel => exact ⟨(wrap64 (x11_2 + 1)), (by first | rfl | (simp; done) | (simp [*]; done)), H', ⟨by have := HJ8.out; have := HK2.out; omega⟩, ⟨by repeat (first | (with_reducible first | exact HB.out | apply below_alloc | apply pw_below_drewN | apply below_drew1) | exact HB.out)⟩⟩
                    · rw [if_neg c22] at H
                      have c22b0 : ((bt t201 x11_2) == 0) = false := beq_eq_false_iff_ne.mpr c22
                      have c22b1 : ((bt t201 x11_2) != 0) = true := bne_iff_ne.mpr c22
                      obtain rfl := Option.some.inj H
                      have p21 : 0 ≤ (x11_2 : Int) := of_decide_eq_true (by first | (with_reducible assumption) | assumption)
                      have q21 : x11_2 < (t201.size : Int) := of_decide_eq_true (by first | (with_reducible assumption) | assumption)
                      have hx21 := bt_at t201 x11_2
                      replace p21 := eq_true p21
                      replace q21 := eq_true q21
                      go_wp2
                      go_ret
                      exact ⟨by first | rfl | (simp [errW_none, errW_some] <;> rfl) | (simp [*, errW_none, errW_some] <;> rfl), by repeat (first | (with_reducible first | exact HB.out | apply below_alloc | apply pw_below_drewN | apply below_drew1) | exact HB.out)⟩
                  · rw [if_neg c20] at H
                    exact absurd H (by simp)
                · rw [if_neg c19] at H
                  have c19b0 : decide (x11_2 < (t201.size : Int)) = false := decide_eq_false c19
                  clear c19
                  obtain ⟨ji23, hji23⟩ : ∃ j_ : Int, (mn (l2.length : Int) 64) = j_ := ⟨_, rfl⟩
                  replace H : (if 0 ≤ (ji23) then (if (ji23) ≤ (l2.length : Int) then ((some (l2.take ((ji23) : Int).toNat : List Int)).bind fun y203 => ((words_Untext.f k2 y203 (wrap64 (8 * (y203.length : Int)))).bind fun bt207 => ((words_Text.f bt207.1 (y203.length : Int)).bind fun bt209 => (if bt207.2 = 0 then (if bt209.2 = 0 then ((escritoireref01_Same.f k2 bt209.1 y203).bind fun t213 => (some t213)) else (some false)) else (some false))))) else (none)) else (none)) = some r := by first | (rw [hji23] at H; exact H) | (simp only [hji23] at H ⊢; exact H)
                  (try (have hji23h : ji23 ≤ 64 := by (rw [← hji23]; unfold mn; (repeat' split) <;> omega)))
                  (try (have hji23g : ji23 ≤ 64 := by omega))
                  (try (have hji23l : 0 ≤ ji23 := by (rw [← hji23]; unfold mn; (repeat' split) <;> omega)))
                  (try (have hji23m : 0 ≤ ji23 := by omega))
                  (try (have hji23x : max ji23 0 = ji23 := by omega))
                  have hji23_ : (if 64 < (l2.length : Int) then 64 else (l2.length : Int)) = ji23 := hji23
                  by_cases c24 : 0 ≤ (ji23)
                  · rw [if_pos c24] at H
                    have c24b0 := eq_true c24
                    have c24b1 : decide (0 ≤ (ji23)) = true := decide_eq_true c24
                    clear c24
                    by_cases c25 : (ji23) ≤ (l2.length : Int)
                    · rw [if_pos c25] at H
                      have c25b0 := eq_true c25
                      have c25b1 : decide ((ji23) ≤ (l2.length : Int)) = true := decide_eq_true c25
                      clear c25
                      obtain ⟨y203, hy203⟩ : ∃ y_ : List Int, y_ = (l2.take ((ji23) : Int).toNat) := ⟨_, rfl⟩
                      replace H : ((words_Untext.f k2 y203 (wrap64 (8 * (y203.length : Int)))).bind fun bt207 => ((words_Text.f bt207.1 (y203.length : Int)).bind fun bt209 => (if bt207.2 = 0 then (if bt209.2 = 0 then ((escritoireref01_Same.f k2 bt209.1 y203).bind fun t213 => (some t213)) else (some false)) else (some false)))) = some r := by first | (rw [hy203]; with_reducible exact H) | (have H2_ := (Option.bind_some _ _).symm.trans H; rw [hy203]; with_reducible exact H2_) | (have H2_ := (Option.bind_some _ _).symm.trans H; with_reducible exact H2_) | with_reducible exact H | (rw [hy203]; exact H) | exact H
                      have Ny203 := Aside0.mk hy203
                      clear hy203
                      replace H := Option.bind_eq_some_iff.mp H
                      obtain ⟨⟨t207, t208⟩, A260, H⟩ := H
                      replace H : ((words_Text.f t207 (y203.length : Int)).bind fun bt209 => (if t208 = 0 then (if bt209.2 = 0 then ((escritoireref01_Same.f k2 bt209.1 y203).bind fun t213 => (some t213)) else (some false)) else (some false))) = some r := H
                      have A26 := Aside0.mk A260
                      clear A260
                      replace H := Option.bind_eq_some_iff.mp H
                      obtain ⟨⟨t209, t210⟩, A270, H⟩ := H
                      replace H : (if t208 = 0 then (if t210 = 0 then ((escritoireref01_Same.f k2 t209 y203).bind fun t213 => (some t213)) else (some false)) else (some false)) = some r := H
                      have A27 := Aside0.mk A270
                      clear A270
                      by_cases c28 : t208 = 0
                      · rw [if_pos c28] at H
                        have c28b0 : (t208 == 0) = true := beq_iff_eq.mpr c28
                        have c28b1 : (t208 != 0) = false := bne_eq_false_iff_eq.mpr c28
                        clear c28
                        by_cases c29 : t210 = 0
                        · rw [if_pos c29] at H
                          have c29b0 : (t210 == 0) = true := beq_iff_eq.mpr c29
                          have c29b1 : (t210 != 0) = false := bne_eq_false_iff_eq.mpr c29
                          clear c29
                          replace H := Option.bind_eq_some_iff.mp H
                          obtain ⟨t213, A300, H⟩ := H
                          replace H : (some t213) = some r := H
                          have A30 := Aside0.mk A300
                          clear A300
                          obtain rfl := Option.some.inj H
                          have q31 : ((ji23) : Int) ≤ ((l2.length : Int) : Int) := of_decide_eq_true (by first | (with_reducible assumption) | assumption)
                          obtain ⟨i031, hi031, _, hsz31, _⟩ := info_parts info23
                          have hroom31 : l2.length ≤ c2 := HC2.out
                          have hC31 : Kd.C (Kd.int .u64) _ A2 l2.length l2 := HR2.out
                          have hcut31 := cut_to (P := Try.prog) 36 23 .i64 Try.underlying36 hi031 A2 l2.length c2 (ji23) (of_decide_eq_true (by first | (with_reducible assumption) | assumption)) q31 hroom31
                          have hr31 := Kd.C_take (m := ((ji23) : Int).toNat) hC31 (by omega)
                          have hy31 : y203.length = ((ji23) : Int).toNat := (by rw [Ny203.out, List.length_take]; omega)
                          rw [← Ny203.out] at hr31
                          rw [← hy31] at hcut31
                          have HR206 := Aside0.mk hr31
                          have HC206 := Aside0.mk (show y203.length ≤ c2 from by omega)
                          clear hr31 hC31 hroom31 hi031 hsz31
                          have KY31 := Aside0.mk hy31
                          clear hy31
                          replace q31 := eq_true q31
                          go_wp2_with (first | ((with_reducible refine gate_callee (f := 17) rfl ?_); refine goesL_ (some 72) rfl rfl Try.func17 (by kernel_rfl) rfl #[.slice A2 y203.length c2, .int .i64 (wrap64 (8 * (y203.length : Int)))] rfl (by (try simp only [List.map_toArray, List.map_cons, List.map_nil]); first | done | rfl | (simp only [List.length_drop, List.length_take]; rfl)) ?_; (with_reducible refine (words_Untext.calls k2 _ _ y203 (wrap64 (8 * (y203.length : Int))) t207 t208 _ ?side1 ?side2 A26.out).mono ?_); (case side1 => repeat (first | exact (Kd.C_below HR206.out HB.out) | (with_reducible refine Kd.C_alloc ?_ _) | (with_reducible refine Kd.C_drewN ?_ _) | (with_reducible refine Kd.C_drew ?_))); (case side2 => exact HC206.out); rintro e w32 ⟨rfl, hb⟩; refine ⟨_, rfl, ?_⟩; have n0_ := Aside0.mk (below_step (by repeat (first | (with_reducible first | exact HB.out | apply below_alloc | apply pw_below_drewN | apply below_drew1) | exact HB.out)) hb); clear HB; have HB := n0_; clear n0_; (try clear hb); (try clear hb2); (try clear hk); (try clear hi)) | ((with_reducible refine gate_callee (f := 15) rfl ?_); refine goesL_ (some 79) rfl rfl Try.func15 (by kernel_rfl) rfl #[.string t207, .int .i64 (y203.length : Int)] rfl (by (try simp only [List.map_toArray, List.map_cons, List.map_nil]); first | done | rfl | (simp only [List.length_drop, List.length_take]; rfl)) ?_; (with_reducible refine (words_Text.calls t207 (y203.length : Int) t209 t210 _ A27.out).mono ?_); rintro e w33 ⟨v211, rfl, ho0, hb⟩; refine ⟨_, rfl, ?_⟩; have n0_ := Aside0.mk (Kd.R_lower ho0 (below_size (by repeat (first | (with_reducible first | exact HB.out | apply below_alloc | apply pw_below_drewN | apply below_drew1) | exact HB.out)))); have n1_ := Aside0.mk (below_step (by repeat (first | (with_reducible first | exact HB.out | apply below_alloc | apply pw_below_drewN | apply below_drew1) | exact HB.out)) hb); clear HB; have HO212 := n0_; have HB := n1_; clear n0_ n1_; (try clear hb); (try clear hb2); (try clear hk); (try clear hi); (try clear ho0); obtain ⟨Ao34, co34, eo34⟩ := Kd.R_slice HO212.out; subst eo34) | (go_at_call 19; (with_reducible refine (escritoireref01_Same.calls k2 _ _ t209 _ _ y203 t213 _ ?side1 ?side2 ?side3 ?side4 A30.out).mono ?_); (case side1 => repeat (first | exact (Kd.R_reads' HO212.out).2.2 | (with_reducible refine Kd.C_alloc ?_ _) | (with_reducible refine Kd.C_drewN ?_ _) | (with_reducible refine Kd.C_drew ?_))); (case side2 => exact (Kd.R_reads' HO212.out).2.1); (case side3 => repeat (first | exact (Kd.C_below HR206.out HB.out) | (with_reducible refine Kd.C_alloc ?_ _) | (with_reducible refine Kd.C_drewN ?_ _) | (with_reducible refine Kd.C_drew ?_))); (case side4 => exact HC206.out); rintro e w' ⟨rfl, ⟨nd, rfl⟩⟩))
                          go_ret
                          exact ⟨by first | rfl | (simp [errW_none, errW_some] <;> rfl) | (simp only [← hji23]; first | rfl | (simp [errW_none, errW_some] <;> rfl)) | (simp [*, errW_none, errW_some] <;> rfl), by repeat (first | (with_reducible first | exact HB.out | apply below_alloc | apply pw_below_drewN | apply below_drew1) | exact HB.out)⟩
                        · rw [if_neg c29] at H
                          have c29b0 : (t210 == 0) = false := beq_eq_false_iff_ne.mpr c29
                          have c29b1 : (t210 != 0) = true := bne_iff_ne.mpr c29
                          obtain rfl := Option.some.inj H
                          have q35 : ((ji23) : Int) ≤ ((l2.length : Int) : Int) := of_decide_eq_true (by first | (with_reducible assumption) | assumption)
                          obtain ⟨i035, hi035, _, hsz35, _⟩ := info_parts info23
                          have hroom35 : l2.length ≤ c2 := HC2.out
                          have hC35 : Kd.C (Kd.int .u64) _ A2 l2.length l2 := HR2.out
                          have hcut35 := cut_to (P := Try.prog) 36 23 .i64 Try.underlying36 hi035 A2 l2.length c2 (ji23) (of_decide_eq_true (by first | (with_reducible assumption) | assumption)) q35 hroom35
                          have hr35 := Kd.C_take (m := ((ji23) : Int).toNat) hC35 (by omega)
                          have hy35 : y203.length = ((ji23) : Int).toNat := (by rw [Ny203.out, List.length_take]; omega)
                          rw [← Ny203.out] at hr35
                          rw [← hy35] at hcut35
                          have HR206 := Aside0.mk hr35
                          have HC206 := Aside0.mk (show y203.length ≤ c2 from by omega)
                          clear hr35 hC35 hroom35 hi035 hsz35
                          have KY35 := Aside0.mk hy35
                          clear hy35
                          replace q35 := eq_true q35
                          go_wp2_with (first | ((with_reducible refine gate_callee (f := 17) rfl ?_); refine goesL_ (some 72) rfl rfl Try.func17 (by kernel_rfl) rfl #[.slice A2 y203.length c2, .int .i64 (wrap64 (8 * (y203.length : Int)))] rfl (by (try simp only [List.map_toArray, List.map_cons, List.map_nil]); first | done | rfl | (simp only [List.length_drop, List.length_take]; rfl)) ?_; (with_reducible refine (words_Untext.calls k2 _ _ y203 (wrap64 (8 * (y203.length : Int))) t207 t208 _ ?side1 ?side2 A26.out).mono ?_); (case side1 => repeat (first | exact (Kd.C_below HR206.out HB.out) | (with_reducible refine Kd.C_alloc ?_ _) | (with_reducible refine Kd.C_drewN ?_ _) | (with_reducible refine Kd.C_drew ?_))); (case side2 => exact HC206.out); rintro e w36 ⟨rfl, hb⟩; refine ⟨_, rfl, ?_⟩; have n0_ := Aside0.mk (below_step (by repeat (first | (with_reducible first | exact HB.out | apply below_alloc | apply pw_below_drewN | apply below_drew1) | exact HB.out)) hb); clear HB; have HB := n0_; clear n0_; (try clear hb); (try clear hb2); (try clear hk); (try clear hi)) | ((with_reducible refine gate_callee (f := 15) rfl ?_); refine goesL_ (some 79) rfl rfl Try.func15 (by kernel_rfl) rfl #[.string t207, .int .i64 (y203.length : Int)] rfl (by (try simp only [List.map_toArray, List.map_cons, List.map_nil]); first | done | rfl | (simp only [List.length_drop, List.length_take]; rfl)) ?_; (with_reducible refine (words_Text.calls t207 (y203.length : Int) t209 t210 _ A27.out).mono ?_); rintro e w37 ⟨v211, rfl, ho0, hb⟩; refine ⟨_, rfl, ?_⟩; have n0_ := Aside0.mk (Kd.R_lower ho0 (below_size (by repeat (first | (with_reducible first | exact HB.out | apply below_alloc | apply pw_below_drewN | apply below_drew1) | exact HB.out)))); have n1_ := Aside0.mk (below_step (by repeat (first | (with_reducible first | exact HB.out | apply below_alloc | apply pw_below_drewN | apply below_drew1) | exact HB.out)) hb); clear HB; have HO212 := n0_; have HB := n1_; clear n0_ n1_; (try clear hb); (try clear hb2); (try clear hk); (try clear hi); (try clear ho0)))
                          go_ret
                          exact ⟨by first | rfl | (simp [errW_none, errW_some] <;> rfl) | (simp only [← hji23]; first | rfl | (simp [errW_none, errW_some] <;> rfl)) | (simp [*, errW_none, errW_some] <;> rfl), by repeat (first | (with_reducible first | exact HB.out | apply below_alloc | apply pw_below_drewN | apply below_drew1) | exact HB.out)⟩
                      · rw [if_neg c28] at H
                        have c28b0 : (t208 == 0) = false := beq_eq_false_iff_ne.mpr c28
                        have c28b1 : (t208 != 0) = true := bne_iff_ne.mpr c28
                        obtain rfl := Option.some.inj H
                        have q38 : ((ji23) : Int) ≤ ((l2.length : Int) : Int) := of_decide_eq_true (by first | (with_reducible assumption) | assumption)
                        obtain ⟨i038, hi038, _, hsz38, _⟩ := info_parts info23
                        have hroom38 : l2.length ≤ c2 := HC2.out
                        have hC38 : Kd.C (Kd.int .u64) _ A2 l2.length l2 := HR2.out
                        have hcut38 := cut_to (P := Try.prog) 36 23 .i64 Try.underlying36 hi038 A2 l2.length c2 (ji23) (of_decide_eq_true (by first | (with_reducible assumption) | assumption)) q38 hroom38
                        have hr38 := Kd.C_take (m := ((ji23) : Int).toNat) hC38 (by omega)
                        have hy38 : y203.length = ((ji23) : Int).toNat := (by rw [Ny203.out, List.length_take]; omega)
                        rw [← Ny203.out] at hr38
                        rw [← hy38] at hcut38
                        have HR206 := Aside0.mk hr38
                        have HC206 := Aside0.mk (show y203.length ≤ c2 from by omega)
                        clear hr38 hC38 hroom38 hi038 hsz38
                        have KY38 := Aside0.mk hy38
                        clear hy38
                        replace q38 := eq_true q38
                        go_wp2_with (first | ((with_reducible refine gate_callee (f := 17) rfl ?_); refine goesL_ (some 72) rfl rfl Try.func17 (by kernel_rfl) rfl #[.slice A2 y203.length c2, .int .i64 (wrap64 (8 * (y203.length : Int)))] rfl (by (try simp only [List.map_toArray, List.map_cons, List.map_nil]); first | done | rfl | (simp only [List.length_drop, List.length_take]; rfl)) ?_; (with_reducible refine (words_Untext.calls k2 _ _ y203 (wrap64 (8 * (y203.length : Int))) t207 t208 _ ?side1 ?side2 A26.out).mono ?_); (case side1 => repeat (first | exact (Kd.C_below HR206.out HB.out) | (with_reducible refine Kd.C_alloc ?_ _) | (with_reducible refine Kd.C_drewN ?_ _) | (with_reducible refine Kd.C_drew ?_))); (case side2 => exact HC206.out); rintro e w39 ⟨rfl, hb⟩; refine ⟨_, rfl, ?_⟩; have n0_ := Aside0.mk (below_step (by repeat (first | (with_reducible first | exact HB.out | apply below_alloc | apply pw_below_drewN | apply below_drew1) | exact HB.out)) hb); clear HB; have HB := n0_; clear n0_; (try clear hb); (try clear hb2); (try clear hk); (try clear hi)) | ((with_reducible refine gate_callee (f := 15) rfl ?_); refine goesL_ (some 79) rfl rfl Try.func15 (by kernel_rfl) rfl #[.string t207, .int .i64 (y203.length : Int)] rfl (by (try simp only [List.map_toArray, List.map_cons, List.map_nil]); first | done | rfl | (simp only [List.length_drop, List.length_take]; rfl)) ?_; (with_reducible refine (words_Text.calls t207 (y203.length : Int) t209 t210 _ A27.out).mono ?_); rintro e w40 ⟨v211, rfl, ho0, hb⟩; refine ⟨_, rfl, ?_⟩; have n0_ := Aside0.mk (Kd.R_lower ho0 (below_size (by repeat (first | (with_reducible first | exact HB.out | apply below_alloc | apply pw_below_drewN | apply below_drew1) | exact HB.out)))); have n1_ := Aside0.mk (below_step (by repeat (first | (with_reducible first | exact HB.out | apply below_alloc | apply pw_below_drewN | apply below_drew1) | exact HB.out)) hb); clear HB; have HO212 := n0_; have HB := n1_; clear n0_ n1_; (try clear hb); (try clear hb2); (try clear hk); (try clear hi); (try clear ho0)))
                        go_ret
                        exact ⟨by first | rfl | (simp [errW_none, errW_some] <;> rfl) | (simp only [← hji23]; first | rfl | (simp [errW_none, errW_some] <;> rfl)) | (simp [*, errW_none, errW_some] <;> rfl), by repeat (first | (with_reducible first | exact HB.out | apply below_alloc | apply pw_below_drewN | apply below_drew1) | exact HB.out)⟩
                    · rw [if_neg c25] at H
                      exact absurd H (by simp)
                  · rw [if_neg c24] at H
                    exact absurd H (by simp)
    · rw [if_neg c7] at H
      have c7b0 : (t198 == 0) = false := beq_eq_false_iff_ne.mpr c7
      have c7b1 : (t198 != 0) = true := bne_iff_ne.mpr c7
      obtain ⟨ji41, hji41⟩ : ∃ j_ : Int, (mn (l2.length : Int) 64) = j_ := ⟨_, rfl⟩
      replace H : (if 0 ≤ (ji41) then (if (ji41) ≤ (l2.length : Int) then ((some (l2.take ((ji41) : Int).toNat : List Int)).bind fun y214 => ((words_Untext.f k y214 (wrap64 (8 * (y214.length : Int)))).bind fun bt218 => ((words_Text.f bt218.1 (y214.length : Int)).bind fun bt220 => (if bt218.2 = 0 then (if bt220.2 = 0 then ((escritoireref01_Same.f k bt220.1 y214).bind fun t224 => (some t224)) else (some false)) else (some false))))) else (none)) else (none)) = some r := by first | (rw [hji41] at H; exact H) | (simp only [hji41] at H ⊢; exact H)
      (try rw [hji41] at A4)
      (try rw [hji41] at A6)
      (try (have hji41h : ji41 ≤ 64 := by (rw [← hji41]; unfold mn; (repeat' split) <;> omega)))
      (try (have hji41g : ji41 ≤ 64 := by omega))
      (try (have hji41l : 0 ≤ ji41 := by (rw [← hji41]; unfold mn; (repeat' split) <;> omega)))
      (try (have hji41m : 0 ≤ ji41 := by omega))
      (try (have hji41x : max ji41 0 = ji41 := by omega))
      have hji41_ : (if 64 < (l2.length : Int) then 64 else (l2.length : Int)) = ji41 := hji41
      by_cases c42 : 0 ≤ (ji41)
      · rw [if_pos c42] at H
        have c42b0 := eq_true c42
        have c42b1 : decide (0 ≤ (ji41)) = true := decide_eq_true c42
        clear c42
        by_cases c43 : (ji41) ≤ (l2.length : Int)
        · rw [if_pos c43] at H
          have c43b0 := eq_true c43
          have c43b1 : decide ((ji41) ≤ (l2.length : Int)) = true := decide_eq_true c43
          clear c43
          obtain ⟨y214, hy214⟩ : ∃ y_ : List Int, y_ = (l2.take ((ji41) : Int).toNat) := ⟨_, rfl⟩
          replace H : ((words_Untext.f k y214 (wrap64 (8 * (y214.length : Int)))).bind fun bt218 => ((words_Text.f bt218.1 (y214.length : Int)).bind fun bt220 => (if bt218.2 = 0 then (if bt220.2 = 0 then ((escritoireref01_Same.f k bt220.1 y214).bind fun t224 => (some t224)) else (some false)) else (some false)))) = some r := by first | (rw [hy214]; with_reducible exact H) | (have H2_ := (Option.bind_some _ _).symm.trans H; rw [hy214]; with_reducible exact H2_) | (have H2_ := (Option.bind_some _ _).symm.trans H; with_reducible exact H2_) | with_reducible exact H | (rw [hy214]; exact H) | exact H
          have Ny214 := Aside0.mk hy214
          clear hy214
          replace H := Option.bind_eq_some_iff.mp H
          obtain ⟨⟨t218, t219⟩, A440, H⟩ := H
          replace H : ((words_Text.f t218 (y214.length : Int)).bind fun bt220 => (if t219 = 0 then (if bt220.2 = 0 then ((escritoireref01_Same.f k bt220.1 y214).bind fun t224 => (some t224)) else (some false)) else (some false))) = some r := H
          have A44 := Aside0.mk A440
          clear A440
          replace H := Option.bind_eq_some_iff.mp H
          obtain ⟨⟨t220, t221⟩, A450, H⟩ := H
          replace H : (if t219 = 0 then (if t221 = 0 then ((escritoireref01_Same.f k t220 y214).bind fun t224 => (some t224)) else (some false)) else (some false)) = some r := H
          have A45 := Aside0.mk A450
          clear A450
          by_cases c46 : t219 = 0
          · rw [if_pos c46] at H
            have c46b0 : (t219 == 0) = true := beq_iff_eq.mpr c46
            have c46b1 : (t219 != 0) = false := bne_eq_false_iff_eq.mpr c46
            clear c46
            by_cases c47 : t221 = 0
            · rw [if_pos c47] at H
              have c47b0 : (t221 == 0) = true := beq_iff_eq.mpr c47
              have c47b1 : (t221 != 0) = false := bne_eq_false_iff_eq.mpr c47
              clear c47
              replace H := Option.bind_eq_some_iff.mp H
              obtain ⟨t224, A480, H⟩ := H
              replace H : (some t224) = some r := H
              have A48 := Aside0.mk A480
              clear A480
              obtain rfl := Option.some.inj H
              go_enter Try.func8, Try.ntmps8
              go_wp2_with (first | ((with_reducible refine gate_callee (f := 9) rfl ?_); refine goesL_ (some 16) rfl rfl Try.func9 (by kernel_rfl) rfl #[] rfl (by (try simp only [List.map_toArray, List.map_cons, List.map_nil]); first | done | rfl | (simp only [List.length_drop, List.length_take]; rfl)) ?_; (with_reducible refine (escritoirelaw01_lives.calls  true _ A4.out).mono ?_); rintro e w49 ⟨rfl, hb⟩; refine ⟨_, rfl, ?_⟩; have n0_ := Aside0.mk (below_step (by repeat (first | (with_reducible first | exact HB.out | apply below_alloc | apply pw_below_drewN | apply below_drew1) | exact HB.out)) hb); clear HB; have HB := n0_; clear n0_; (try clear hb); (try clear hb2); (try clear hk); (try clear hi)) | ((with_reducible refine gate_callee (f := 15) rfl ?_); refine goesL_ (some 21) rfl rfl Try.func15 (by kernel_rfl) rfl #[.string a0, .int .i64 a1] rfl (by (try simp only [List.map_toArray, List.map_cons, List.map_nil]); first | done | rfl | (simp only [List.length_drop, List.length_take]; rfl)) ?_; (with_reducible refine (words_Text.calls a0 a1 t197 t198 _ A6.out).mono ?_); rintro e w50 ⟨v199, rfl, ho0, hb⟩; refine ⟨_, rfl, ?_⟩; have n0_ := Aside0.mk (Kd.R_lower ho0 (below_size (by repeat (first | (with_reducible first | exact HB.out | apply below_alloc | apply pw_below_drewN | apply below_drew1) | exact HB.out)))); have n1_ := Aside0.mk (below_step (by repeat (first | (with_reducible first | exact HB.out | apply below_alloc | apply pw_below_drewN | apply below_drew1) | exact HB.out)) hb); clear HB; have HO200 := n0_; have HB := n1_; clear n0_ n1_; (try clear hb); (try clear hb2); (try clear hk); (try clear hi); (try clear ho0); have q51 : ((ji41) : Int) ≤ ((l2.length : Int) : Int) := of_decide_eq_true (by first | (with_reducible assumption) | assumption); obtain ⟨i051, hi051, _, hsz51, _⟩ := info_parts info23; have hroom51 : l2.length ≤ c2 := HC2.out; have hC51 : Kd.C (Kd.int .u64) _ A2 l2.length l2 := HR2.out; have hcut51 := cut_to (P := Try.prog) 36 23 .i64 Try.underlying36 hi051 A2 l2.length c2 (ji41) (of_decide_eq_true (by first | (with_reducible assumption) | assumption)) q51 hroom51; have hr51 := Kd.C_take (m := ((ji41) : Int).toNat) hC51 (by omega); have hy51 : y214.length = ((ji41) : Int).toNat := (by rw [Ny214.out, List.length_take]; omega); rw [← Ny214.out] at hr51; rw [← hy51] at hcut51; have HR217 := Aside0.mk hr51; have HC217 := Aside0.mk (show y214.length ≤ c2 from by omega); clear hr51 hC51 hroom51 hi051 hsz51; have KY51 := Aside0.mk hy51; clear hy51; replace q51 := eq_true q51) | ((with_reducible refine gate_callee (f := 17) rfl ?_); refine goesL_ (some 72) rfl rfl Try.func17 (by kernel_rfl) rfl #[.slice A2 y214.length c2, .int .i64 (wrap64 (8 * (y214.length : Int)))] rfl (by (try simp only [List.map_toArray, List.map_cons, List.map_nil]); first | done | rfl | (simp only [List.length_drop, List.length_take]; rfl)) ?_; (with_reducible refine (words_Untext.calls k _ _ y214 (wrap64 (8 * (y214.length : Int))) t218 t219 _ ?side1 ?side2 A44.out).mono ?_); (case side1 => repeat (first | exact (Kd.C_below HR217.out HB.out) | (with_reducible refine Kd.C_alloc ?_ _) | (with_reducible refine Kd.C_drewN ?_ _) | (with_reducible refine Kd.C_drew ?_))); (case side2 => exact HC217.out); rintro e w52 ⟨rfl, hb⟩; refine ⟨_, rfl, ?_⟩; have n0_ := Aside0.mk (Kd.R_below (by (with_reducible repeat (first | apply Kd.R_alloc | apply Kd.R_drewN | apply Kd.R_drew)); exact HO200.out) hb); have n1_ := Aside0.mk (below_step (by repeat (first | (with_reducible first | exact HB.out | apply below_alloc | apply pw_below_drewN | apply below_drew1) | exact HB.out)) hb); clear HO200; clear HB; have HO200 := n0_; have HB := n1_; clear n0_ n1_; (try clear hb); (try clear hb2); (try clear hk); (try clear hi)) | ((with_reducible refine gate_callee (f := 15) rfl ?_); refine goesL_ (some 79) rfl rfl Try.func15 (by kernel_rfl) rfl #[.string t218, .int .i64 (y214.length : Int)] rfl (by (try simp only [List.map_toArray, List.map_cons, List.map_nil]); first | done | rfl | (simp only [List.length_drop, List.length_take]; rfl)) ?_; (with_reducible refine (words_Text.calls t218 (y214.length : Int) t220 t221 _ A45.out).mono ?_); rintro e w53 ⟨v222, rfl, ho0, hb⟩; refine ⟨_, rfl, ?_⟩; have n0_ := Aside0.mk (Kd.R_elder' (by (with_reducible repeat (first | apply Kd.R_alloc | apply Kd.R_drewN | apply Kd.R_drew)); exact HO200.out) (Kd.R_base ho0) hb); have n1_ := Aside0.mk (Kd.R_lower (Kd.R_new' ho0 (Kd.R_lt (by (with_reducible repeat (first | apply Kd.R_alloc | apply Kd.R_drewN | apply Kd.R_drew)); exact HO200.out))) (below_size (by repeat (first | (with_reducible first | exact HB.out | apply below_alloc | apply pw_below_drewN | apply below_drew1) | exact HB.out)))); have n2_ := Aside0.mk (below_step (by repeat (first | (with_reducible first | exact HB.out | apply below_alloc | apply pw_below_drewN | apply below_drew1) | exact HB.out)) hb); clear HO200; clear HB; have HO200 := n0_; have HO223 := n1_; have HB := n2_; clear n0_ n1_ n2_; (try clear hb); (try clear hb2); (try clear hk); (try clear hi); (try clear ho0); obtain ⟨Ao54, co54, eo54⟩ := Kd.R_slice HO223.out; subst eo54) | (go_at_call 19; (with_reducible refine (escritoireref01_Same.calls k _ _ t220 _ _ y214 t224 _ ?side1 ?side2 ?side3 ?side4 A48.out).mono ?_); (case side1 => repeat (first | exact (Kd.R_reads' HO223.out).2.2 | (with_reducible refine Kd.C_alloc ?_ _) | (with_reducible refine Kd.C_drewN ?_ _) | (with_reducible refine Kd.C_drew ?_))); (case side2 => exact (Kd.R_reads' HO223.out).2.1); (case side3 => repeat (first | exact (Kd.C_below HR217.out HB.out) | (with_reducible refine Kd.C_alloc ?_ _) | (with_reducible refine Kd.C_drewN ?_ _) | (with_reducible refine Kd.C_drew ?_))); (case side4 => exact HC217.out); rintro e w' ⟨rfl, ⟨nd, rfl⟩⟩))
              go_ret
              exact ⟨by first | rfl | (simp [errW_none, errW_some] <;> rfl) | (simp only [← hji41]; first | rfl | (simp [errW_none, errW_some] <;> rfl)) | (simp [*, errW_none, errW_some] <;> rfl), by repeat (first | (with_reducible first | exact HB.out | apply below_alloc | apply pw_below_drewN | apply below_drew1) | exact HB.out)⟩
            · rw [if_neg c47] at H
              have c47b0 : (t221 == 0) = false := beq_eq_false_iff_ne.mpr c47
              have c47b1 : (t221 != 0) = true := bne_iff_ne.mpr c47
              obtain rfl := Option.some.inj H
              go_enter Try.func8, Try.ntmps8
              go_wp2_with (first | ((with_reducible refine gate_callee (f := 9) rfl ?_); refine goesL_ (some 16) rfl rfl Try.func9 (by kernel_rfl) rfl #[] rfl (by (try simp only [List.map_toArray, List.map_cons, List.map_nil]); first | done | rfl | (simp only [List.length_drop, List.length_take]; rfl)) ?_; (with_reducible refine (escritoirelaw01_lives.calls  true _ A4.out).mono ?_); rintro e w55 ⟨rfl, hb⟩; refine ⟨_, rfl, ?_⟩; have n0_ := Aside0.mk (below_step (by repeat (first | (with_reducible first | exact HB.out | apply below_alloc | apply pw_below_drewN | apply below_drew1) | exact HB.out)) hb); clear HB; have HB := n0_; clear n0_; (try clear hb); (try clear hb2); (try clear hk); (try clear hi)) | ((with_reducible refine gate_callee (f := 15) rfl ?_); refine goesL_ (some 21) rfl rfl Try.func15 (by kernel_rfl) rfl #[.string a0, .int .i64 a1] rfl (by (try simp only [List.map_toArray, List.map_cons, List.map_nil]); first | done | rfl | (simp only [List.length_drop, List.length_take]; rfl)) ?_; (with_reducible refine (words_Text.calls a0 a1 t197 t198 _ A6.out).mono ?_); rintro e w56 ⟨v199, rfl, ho0, hb⟩; refine ⟨_, rfl, ?_⟩; have n0_ := Aside0.mk (Kd.R_lower ho0 (below_size (by repeat (first | (with_reducible first | exact HB.out | apply below_alloc | apply pw_below_drewN | apply below_drew1) | exact HB.out)))); have n1_ := Aside0.mk (below_step (by repeat (first | (with_reducible first | exact HB.out | apply below_alloc | apply pw_below_drewN | apply below_drew1) | exact HB.out)) hb); clear HB; have HO200 := n0_; have HB := n1_; clear n0_ n1_; (try clear hb); (try clear hb2); (try clear hk); (try clear hi); (try clear ho0); have q57 : ((ji41) : Int) ≤ ((l2.length : Int) : Int) := of_decide_eq_true (by first | (with_reducible assumption) | assumption); obtain ⟨i057, hi057, _, hsz57, _⟩ := info_parts info23; have hroom57 : l2.length ≤ c2 := HC2.out; have hC57 : Kd.C (Kd.int .u64) _ A2 l2.length l2 := HR2.out; have hcut57 := cut_to (P := Try.prog) 36 23 .i64 Try.underlying36 hi057 A2 l2.length c2 (ji41) (of_decide_eq_true (by first | (with_reducible assumption) | assumption)) q57 hroom57; have hr57 := Kd.C_take (m := ((ji41) : Int).toNat) hC57 (by omega); have hy57 : y214.length = ((ji41) : Int).toNat := (by rw [Ny214.out, List.length_take]; omega); rw [← Ny214.out] at hr57; rw [← hy57] at hcut57; have HR217 := Aside0.mk hr57; have HC217 := Aside0.mk (show y214.length ≤ c2 from by omega); clear hr57 hC57 hroom57 hi057 hsz57; have KY57 := Aside0.mk hy57; clear hy57; replace q57 := eq_true q57) | ((with_reducible refine gate_callee (f := 17) rfl ?_); refine goesL_ (some 72) rfl rfl Try.func17 (by kernel_rfl) rfl #[.slice A2 y214.length c2, .int .i64 (wrap64 (8 * (y214.length : Int)))] rfl (by (try simp only [List.map_toArray, List.map_cons, List.map_nil]); first | done | rfl | (simp only [List.length_drop, List.length_take]; rfl)) ?_; (with_reducible refine (words_Untext.calls k _ _ y214 (wrap64 (8 * (y214.length : Int))) t218 t219 _ ?side1 ?side2 A44.out).mono ?_); (case side1 => repeat (first | exact (Kd.C_below HR217.out HB.out) | (with_reducible refine Kd.C_alloc ?_ _) | (with_reducible refine Kd.C_drewN ?_ _) | (with_reducible refine Kd.C_drew ?_))); (case side2 => exact HC217.out); rintro e w58 ⟨rfl, hb⟩; refine ⟨_, rfl, ?_⟩; have n0_ := Aside0.mk (Kd.R_below (by (with_reducible repeat (first | apply Kd.R_alloc | apply Kd.R_drewN | apply Kd.R_drew)); exact HO200.out) hb); have n1_ := Aside0.mk (below_step (by repeat (first | (with_reducible first | exact HB.out | apply below_alloc | apply pw_below_drewN | apply below_drew1) | exact HB.out)) hb); clear HO200; clear HB; have HO200 := n0_; have HB := n1_; clear n0_ n1_; (try clear hb); (try clear hb2); (try clear hk); (try clear hi)) | ((with_reducible refine gate_callee (f := 15) rfl ?_); refine goesL_ (some 79) rfl rfl Try.func15 (by kernel_rfl) rfl #[.string t218, .int .i64 (y214.length : Int)] rfl (by (try simp only [List.map_toArray, List.map_cons, List.map_nil]); first | done | rfl | (simp only [List.length_drop, List.length_take]; rfl)) ?_; (with_reducible refine (words_Text.calls t218 (y214.length : Int) t220 t221 _ A45.out).mono ?_); rintro e w59 ⟨v222, rfl, ho0, hb⟩; refine ⟨_, rfl, ?_⟩; have n0_ := Aside0.mk (Kd.R_elder' (by (with_reducible repeat (first | apply Kd.R_alloc | apply Kd.R_drewN | apply Kd.R_drew)); exact HO200.out) (Kd.R_base ho0) hb); have n1_ := Aside0.mk (Kd.R_lower (Kd.R_new' ho0 (Kd.R_lt (by (with_reducible repeat (first | apply Kd.R_alloc | apply Kd.R_drewN | apply Kd.R_drew)); exact HO200.out))) (below_size (by repeat (first | (with_reducible first | exact HB.out | apply below_alloc | apply pw_below_drewN | apply below_drew1) | exact HB.out)))); have n2_ := Aside0.mk (below_step (by repeat (first | (with_reducible first | exact HB.out | apply below_alloc | apply pw_below_drewN | apply below_drew1) | exact HB.out)) hb); clear HO200; clear HB; have HO200 := n0_; have HO223 := n1_; have HB := n2_; clear n0_ n1_ n2_; (try clear hb); (try clear hb2); (try clear hk); (try clear hi); (try clear ho0)))
              go_ret
              exact ⟨by first | rfl | (simp [errW_none, errW_some] <;> rfl) | (simp only [← hji41]; first | rfl | (simp [errW_none, errW_some] <;> rfl)) | (simp [*, errW_none, errW_some] <;> rfl), by repeat (first | (with_reducible first | exact HB.out | apply below_alloc | apply pw_below_drewN | apply below_drew1) | exact HB.out)⟩
          · rw [if_neg c46] at H
            have c46b0 : (t219 == 0) = false := beq_eq_false_iff_ne.mpr c46
            have c46b1 : (t219 != 0) = true := bne_iff_ne.mpr c46
            obtain rfl := Option.some.inj H
            go_enter Try.func8, Try.ntmps8
            go_wp2_with (first | ((with_reducible refine gate_callee (f := 9) rfl ?_); refine goesL_ (some 16) rfl rfl Try.func9 (by kernel_rfl) rfl #[] rfl (by (try simp only [List.map_toArray, List.map_cons, List.map_nil]); first | done | rfl | (simp only [List.length_drop, List.length_take]; rfl)) ?_; (with_reducible refine (escritoirelaw01_lives.calls  true _ A4.out).mono ?_); rintro e w60 ⟨rfl, hb⟩; refine ⟨_, rfl, ?_⟩; have n0_ := Aside0.mk (below_step (by repeat (first | (with_reducible first | exact HB.out | apply below_alloc | apply pw_below_drewN | apply below_drew1) | exact HB.out)) hb); clear HB; have HB := n0_; clear n0_; (try clear hb); (try clear hb2); (try clear hk); (try clear hi)) | ((with_reducible refine gate_callee (f := 15) rfl ?_); refine goesL_ (some 21) rfl rfl Try.func15 (by kernel_rfl) rfl #[.string a0, .int .i64 a1] rfl (by (try simp only [List.map_toArray, List.map_cons, List.map_nil]); first | done | rfl | (simp only [List.length_drop, List.length_take]; rfl)) ?_; (with_reducible refine (words_Text.calls a0 a1 t197 t198 _ A6.out).mono ?_); rintro e w61 ⟨v199, rfl, ho0, hb⟩; refine ⟨_, rfl, ?_⟩; have n0_ := Aside0.mk (Kd.R_lower ho0 (below_size (by repeat (first | (with_reducible first | exact HB.out | apply below_alloc | apply pw_below_drewN | apply below_drew1) | exact HB.out)))); have n1_ := Aside0.mk (below_step (by repeat (first | (with_reducible first | exact HB.out | apply below_alloc | apply pw_below_drewN | apply below_drew1) | exact HB.out)) hb); clear HB; have HO200 := n0_; have HB := n1_; clear n0_ n1_; (try clear hb); (try clear hb2); (try clear hk); (try clear hi); (try clear ho0); have q62 : ((ji41) : Int) ≤ ((l2.length : Int) : Int) := of_decide_eq_true (by first | (with_reducible assumption) | assumption); obtain ⟨i062, hi062, _, hsz62, _⟩ := info_parts info23; have hroom62 : l2.length ≤ c2 := HC2.out; have hC62 : Kd.C (Kd.int .u64) _ A2 l2.length l2 := HR2.out; have hcut62 := cut_to (P := Try.prog) 36 23 .i64 Try.underlying36 hi062 A2 l2.length c2 (ji41) (of_decide_eq_true (by first | (with_reducible assumption) | assumption)) q62 hroom62; have hr62 := Kd.C_take (m := ((ji41) : Int).toNat) hC62 (by omega); have hy62 : y214.length = ((ji41) : Int).toNat := (by rw [Ny214.out, List.length_take]; omega); rw [← Ny214.out] at hr62; rw [← hy62] at hcut62; have HR217 := Aside0.mk hr62; have HC217 := Aside0.mk (show y214.length ≤ c2 from by omega); clear hr62 hC62 hroom62 hi062 hsz62; have KY62 := Aside0.mk hy62; clear hy62; replace q62 := eq_true q62) | ((with_reducible refine gate_callee (f := 17) rfl ?_); refine goesL_ (some 72) rfl rfl Try.func17 (by kernel_rfl) rfl #[.slice A2 y214.length c2, .int .i64 (wrap64 (8 * (y214.length : Int)))] rfl (by (try simp only [List.map_toArray, List.map_cons, List.map_nil]); first | done | rfl | (simp only [List.length_drop, List.length_take]; rfl)) ?_; (with_reducible refine (words_Untext.calls k _ _ y214 (wrap64 (8 * (y214.length : Int))) t218 t219 _ ?side1 ?side2 A44.out).mono ?_); (case side1 => repeat (first | exact (Kd.C_below HR217.out HB.out) | (with_reducible refine Kd.C_alloc ?_ _) | (with_reducible refine Kd.C_drewN ?_ _) | (with_reducible refine Kd.C_drew ?_))); (case side2 => exact HC217.out); rintro e w63 ⟨rfl, hb⟩; refine ⟨_, rfl, ?_⟩; have n0_ := Aside0.mk (Kd.R_below (by (with_reducible repeat (first | apply Kd.R_alloc | apply Kd.R_drewN | apply Kd.R_drew)); exact HO200.out) hb); have n1_ := Aside0.mk (below_step (by repeat (first | (with_reducible first | exact HB.out | apply below_alloc | apply pw_below_drewN | apply below_drew1) | exact HB.out)) hb); clear HO200; clear HB; have HO200 := n0_; have HB := n1_; clear n0_ n1_; (try clear hb); (try clear hb2); (try clear hk); (try clear hi)) | ((with_reducible refine gate_callee (f := 15) rfl ?_); refine goesL_ (some 79) rfl rfl Try.func15 (by kernel_rfl) rfl #[.string t218, .int .i64 (y214.length : Int)] rfl (by (try simp only [List.map_toArray, List.map_cons, List.map_nil]); first | done | rfl | (simp only [List.length_drop, List.length_take]; rfl)) ?_; (with_reducible refine (words_Text.calls t218 (y214.length : Int) t220 t221 _ A45.out).mono ?_); rintro e w64 ⟨v222, rfl, ho0, hb⟩; refine ⟨_, rfl, ?_⟩; have n0_ := Aside0.mk (Kd.R_elder' (by (with_reducible repeat (first | apply Kd.R_alloc | apply Kd.R_drewN | apply Kd.R_drew)); exact HO200.out) (Kd.R_base ho0) hb); have n1_ := Aside0.mk (Kd.R_lower (Kd.R_new' ho0 (Kd.R_lt (by (with_reducible repeat (first | apply Kd.R_alloc | apply Kd.R_drewN | apply Kd.R_drew)); exact HO200.out))) (below_size (by repeat (first | (with_reducible first | exact HB.out | apply below_alloc | apply pw_below_drewN | apply below_drew1) | exact HB.out)))); have n2_ := Aside0.mk (below_step (by repeat (first | (with_reducible first | exact HB.out | apply below_alloc | apply pw_below_drewN | apply below_drew1) | exact HB.out)) hb); clear HO200; clear HB; have HO200 := n0_; have HO223 := n1_; have HB := n2_; clear n0_ n1_ n2_; (try clear hb); (try clear hb2); (try clear hk); (try clear hi); (try clear ho0)))
            go_ret
            exact ⟨by first | rfl | (simp [errW_none, errW_some] <;> rfl) | (simp only [← hji41]; first | rfl | (simp [errW_none, errW_some] <;> rfl)) | (simp [*, errW_none, errW_some] <;> rfl), by repeat (first | (with_reducible first | exact HB.out | apply below_alloc | apply pw_below_drewN | apply below_drew1) | exact HB.out)⟩
        · rw [if_neg c43] at H
          exact absurd H (by simp)
      · rw [if_neg c42] at H
        exact absurd H (by simp)
  · replace c5 := Bool.eq_false_iff.mpr c5
    subst c5
    have H1 : (some false) = some r := by rw [if_neg (show ¬ (false = true) by decide)] at H; exact H
    clear H
    have H := H1
    clear H1
    obtain rfl := Option.some.inj H
    go_enter Try.func8, Try.ntmps8
    go_wp2_with (first | ((with_reducible refine gate_callee (f := 9) rfl ?_); refine goesL_ (some 16) rfl rfl Try.func9 (by kernel_rfl) rfl #[] rfl (by (try simp only [List.map_toArray, List.map_cons, List.map_nil]); first | done | rfl | (simp only [List.length_drop, List.length_take]; rfl)) ?_; (with_reducible refine (escritoirelaw01_lives.calls  false _ A4.out).mono ?_); rintro e w65 ⟨rfl, hb⟩; refine ⟨_, rfl, ?_⟩; have n0_ := Aside0.mk (below_step (by repeat (first | (with_reducible first | exact HB.out | apply below_alloc | apply pw_below_drewN | apply below_drew1) | exact HB.out)) hb); clear HB; have HB := n0_; clear n0_; (try clear hb); (try clear hb2); (try clear hk); (try clear hi)))
    go_ret
    exact ⟨by first | rfl | (simp [errW_none, errW_some] <;> rfl) | (simp [*, errW_none, errW_some] <;> rfl), by repeat (first | (with_reducible first | exact HB.out | apply below_alloc | apply pw_below_drewN | apply below_drew1) | exact HB.out)⟩

end Go.Proofs.Ytkjmhijgjllnbaa.Print
