/- WordsBack in plain Lean: what is put is got. -/
import Derived.Test.YtkjmhijgjllnbaaPureBase
namespace Go.Proofs.Ytkjmhijgjllnbaa.Pure
open Go.RowKit Go.Proofs.Ytkjmhijgjllnbaa.Print Go.Proofs.YtkjmhijgjllnbaaW.PrintWords Go.Proofs.YtkjmhijgjllnbaaW.PrintLast Go.Proofs.YtkjmhijgjllnbaaW.PrintMore

theorem back_core (k : Nat) (w v o x p q e f0 f1 f2 f3 : Int) (h1 : words_Get.f x f0 f1 = some (v, 0)) (h2 : words_Put.f x f0 f1 o = some (w, 0)) (h3 : words_Get.f w f2 f3 = some (p, e)) (h4 : words_Get.f x f2 f3 = some (q, e))
    (hpq : e = 0 → (wrap64 (f2 + f3) ≤ f0 ∨ wrap64 (f0 + f1) ≤ f2) → p = q) : escritoirelaw01_WordsBack.j0 (k + 1) w v o 0 x 0 false f0 f1 f2 f3 = some true := by
  rw [escritoirelaw01_WordsBack.j0, if_neg (by decide), h1, h2, h3, h4]
  simp only [Option.bind_some, if_true]
  by_cases he : e = 0
  · rw [if_pos he]
    by_cases c1 : wrap64 (f2 + f3) ≤ f0
    · rw [if_pos c1, hpq he (.inl c1), beq_self_eq_true]
    · rw [if_neg c1]
      by_cases c2 : wrap64 (f0 + f1) ≤ f2
      · rw [if_pos c2, hpq he (.inr c2), beq_self_eq_true]
      · rw [if_neg c2]
  · rw [if_neg he]
/-- The law's end, where the field may be and the value fits. -/
theorem back_j0_yes (k : Nat) {w v a b : Nat} (hw : w < 2 ^ 64) (ok : okF a b) (hlt : v < 2 ^ b) (f2 f3 : Int) :
    escritoirelaw01_WordsBack.j0 (k + 1) (w : Int) (v : Int) ((getN w a b : Nat) : Int) 0 ((putN w a b v : Nat) : Int) 0 false (a : Int) (b : Int) f2 f3 = some true := by
  have ok' := ok
  unfold okF at ok'
  have hab : a + b ≤ 64 := by omega
  have hx := putN_lt (a := a) (b := b) (v := v) hw
  have hg : getN w a b < 2 ^ 64 := Nat.lt_of_lt_of_le (getN_lt w a b) (Nat.pow_le_pow_right (by decide) (by omega))
  have h1 := Get_yes hx ok
  rw [get_put hw hab hlt] at h1
  have h2 := Put_yes hx hg ok
  rw [if_pos (getN_lt w a b), put_get hw hab hlt] at h2
  by_cases ok2 : okF f2 f3
  · obtain ⟨c, rfl⟩ := Int.eq_ofNat_of_zero_le (show 0 ≤ f2 by unfold okF at ok2; omega)
    obtain ⟨d, rfl⟩ := Int.eq_ofNat_of_zero_le (show 0 ≤ f3 by unfold okF at ok2; omega)
    have ok2' := ok2
    unfold okF at ok2'
    refine back_core k _ _ _ _ _ _ _ _ _ _ _ h1 h2 (Get_yes hw ok2) (Get_yes hx ok2) (fun _ h => ?_)
    rw [wrap_id (by omega) (by omega), wrap_id (by omega) (by omega)] at h
    rw [get_apart hw hab hlt (by omega)]
  · exact back_core k _ _ _ _ _ _ _ _ _ _ _ h1 h2 (Get_no ok2) (Get_no ok2) (fun _ _ => rfl)
theorem back_j0_range (k : Nat) (w v o x f0 f1 f2 f3 : Int) : escritoirelaw01_WordsBack.j0 (k + 1) w v o 0 x 2 true f0 f1 f2 f3 = some true := by
  rw [escritoirelaw01_WordsBack.j0, if_pos rfl, if_pos rfl, if_pos rfl]
theorem back_j0_arg (k : Nat) (w v o x f0 f1 f2 f3 : Int) : escritoirelaw01_WordsBack.j0 (k + 1) w v o 1 x 1 true f0 f1 f2 f3 = some true := by
  rw [escritoirelaw01_WordsBack.j0, if_pos rfl, if_neg (by decide), if_pos rfl, beq_self_eq_true]
theorem back_all (k : Nat) {w v : Nat} (hw : w < 2 ^ 64) (hv : v < 2 ^ 64) (f0 f1 f2 f3 : Int) : escritoirelaw01_WordsBack.f (k + 1) (w : Int) f0 f1 f2 f3 (v : Int) = some true := by
  unfold escritoirelaw01_WordsBack.f
  rw [lives_eq]
  simp only [Option.bind_some, if_true]
  by_cases ok : okF f0 f1
  · obtain ⟨a, rfl⟩ := Int.eq_ofNat_of_zero_le (show 0 ≤ f0 by unfold okF at ok; omega)
    obtain ⟨b, rfl⟩ := Int.eq_ofNat_of_zero_le (show 0 ≤ f1 by unfold okF at ok; omega)
    rw [Get_yes hw ok, Put_yes hw hv ok]
    by_cases hlt : v < 2 ^ b
    · rw [if_pos hlt]
      simp only [Option.bind_some, if_true]
      exact back_j0_yes k hw ok hlt f2 f3
    · rw [if_neg hlt]
      simp only [Option.bind_some, if_true]
      exact back_j0_range k ..
  · rw [Get_no ok, Put_no ok]
    simp only [Option.bind_some]
    rw [if_neg (by decide)]
    exact back_j0_arg k ..
theorem WordsBack : escritoirelaw01_WordsBack.Pure := by
  intro a0 a1 a2 h0 h1 h2
  obtain ⟨w, rfl, hw⟩ := wfu64 h0
  obtain ⟨v, rfl, hv⟩ := wfu64 h2
  exact ⟨0 + 1, back_all 0 hw hv _ _ _ _⟩
end Go.Proofs.Ytkjmhijgjllnbaa.Pure
