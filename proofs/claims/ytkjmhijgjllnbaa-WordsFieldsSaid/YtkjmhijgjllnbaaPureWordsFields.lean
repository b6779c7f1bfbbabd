/- WordsFields in plain Lean: the field's value, and the word with another one. -/
import Derived.Test.YtkjmhijgjllnbaaPureBase
namespace Go.Proofs.Ytkjmhijgjllnbaa.Pure
open Go.RowKit Go.Proofs.Ytkjmhijgjllnbaa.Print Go.Proofs.YtkjmhijgjllnbaaW.PrintWords Go.Proofs.YtkjmhijgjllnbaaW.PrintLast Go.Proofs.YtkjmhijgjllnbaaW.PrintMore

theorem WordsFields : escritoirelaw01_WordsFields.Pure := by
  intro a0 ⟨f0, f1⟩ a2 h0 h1 h2
  obtain ⟨w, rfl, hw⟩ := wfu64 h0
  obtain ⟨v, rfl, hv⟩ := wfu64 h2
  have hh : Ev (fun k => escritoirelaw01_WordsFields.f k (w : Int) f0 f1 (v : Int)) true := by
    unfold escritoirelaw01_WordsFields.f
    rw [lives_eq]
    simp only [Option.bind_some, if_true]
    by_cases ok : okF f0 f1
    · obtain ⟨a, rfl⟩ := Int.eq_ofNat_of_zero_le (show 0 ≤ f0 by unfold okF at ok; omega)
      obtain ⟨b, rfl⟩ := Int.eq_ofNat_of_zero_le (show 0 ≤ f1 by unfold okF at ok; omega)
      rw [Get_yes hw ok, Put_yes hw hv ok]
      simp only [Option.bind_some]
      refine Ev.bind (refGet_ev hw ok) ?_
      by_cases hlt : v < 2 ^ b
      · have hp := refPut_ev hw hv ok
        rw [if_pos hlt] at hp ⊢
        simp only [Option.bind_some]
        refine Ev.bind hp ?_
        simp only [if_true, beq_self_eq_true]
        exact Ev.now _
      · have hp := refPut_ev hw hv ok
        rw [if_neg hlt] at hp ⊢
        simp only [Option.bind_some]
        refine Ev.bind hp ?_
        simp only [if_true, beq_self_eq_true]
        exact Ev.now _
    · rw [Get_no ok, Put_no ok]
      simp only [Option.bind_some]
      refine Ev.bind (refGet_no ok) (Ev.bind (refPut_no ok) ?_)
      simp only [if_true, beq_self_eq_true]
      exact Ev.now _
  exact hh.rounds
end Go.Proofs.Ytkjmhijgjllnbaa.Pure
