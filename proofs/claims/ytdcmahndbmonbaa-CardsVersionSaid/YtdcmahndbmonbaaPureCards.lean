/- What the cards' functions compute: their words, and what is read of words. -/
import Derived.Test.YtdcmahndbmonbaaPureBase
namespace Go.Proofs.Ytdcmahndbmonbaa.Pure
open Go.RowKit Go.Proofs.Ytdcmahndbmonbaa.Print Go.Proofs.YtdcmahndbmonbaaW.PrintWords Go.Proofs.YtdcmahndbmonbaaW.PrintLast Go.Proofs.YtdcmahndbmonbaaW.PrintMore

def FL : List S45 := [⟨0, 0, 8⟩, ⟨0, 8, 16⟩, ⟨0, 24, 32⟩, ⟨2, 0, 16⟩, ⟨2, 16, 16⟩, ⟨2, 32, 16⟩, ⟨2, 48, 16⟩, ⟨3, 0, 16⟩, ⟨3, 16, 16⟩]
theorem fields_ev : Ev (fun k => cards_fields.f k) FL := Ev.of (fun k => cards_fields.mono k) (k := 10) (by kernel_rfl)
theorem lives_ev : Ev (fun _ => escritoirelaw06_lives.f) true := Ev.now true

/-! ### lists alike -/
/-! ### which cards may be -/
/-- What a card that may be is made of. -/
theorem right_bounds {a0 a1 a2 a3 a4 a5 a6 a7 a8 a9 : Int} (h : rightB a0 a1 a2 a3 a4 a5 a6 a7 a8 a9 = true) :
    (0 ≤ a0 ∧ a0 ≤ 3) ∧ (0 ≤ a1 ∧ a1 ≤ 255) ∧ (0 ≤ a2 ∧ a2 ≤ 2688) ∧ (-1 ≤ a4 ∧ a4 ≤ 95) ∧ (-1 ≤ a5 ∧ a5 ≤ 95) ∧ (-1 ≤ a6 ∧ a6 ≤ 95) ∧ (-1 ≤ a7 ∧ a7 ≤ 95) ∧ (-1 ≤ a8 ∧ a8 ≤ 95) ∧ (-1 ≤ a9 ∧ a9 ≤ 95) := by
  unfold rightB at h
  by_cases h0 : a0 = 0
  · rw [if_pos h0] at h
    unfold dirNone noneB at h
    simp at h
    omega
  · rw [if_neg h0] at h
    by_cases k1 : a0 = 1 ∨ a0 = 2 ∨ a0 = 3
    · rw [if_pos k1] at h
      unfold fitsB oddB at h
      simp at h
      omega
    · rw [if_neg k1] at h
      cases h
end Go.Proofs.Ytdcmahndbmonbaa.Pure
