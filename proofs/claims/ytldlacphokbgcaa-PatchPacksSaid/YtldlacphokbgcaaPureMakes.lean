/- What a patch makes: Of, Make and Back in plain Lean. -/
import Derived.Test.YtldlacphokbgcaaPureBase
namespace Go.Proofs.Ytldlacphokbgcaa.Pure
open Go.RowKit Go.Proofs.Ytldlacphokbgcaa.Print Go.Proofs.YtldlacphokbgcaaW.PrintWords Go.Proofs.YtldlacphokbgcaaW.PrintLast Go.Proofs.YtldlacphokbgcaaW.PrintMore
set_option linter.unusedVariables false
set_option linter.unusedSimpArgs false

/-! ### where two lists differ -/
/-! ### making -/
def put (a : List Int) (c : S31) : List Int := if 0 ≤ c.f0 ∧ c.f0 < (a.length : Int) then a.set c.f0.toNat c.f1 else a
/-! ### back -/
/-! ### the program's Of -/
theorem mn_nat (a b : Nat) : mn (a : Int) (b : Int) = ((min a b : Nat) : Int) := by unfold mn; split <;> omega
/-! ### the program's Make -/
/-! ### Right and Back -/
theorem refRight_ev (p : List S31) (hp : p.length ≤ 1048576) : Ev (fun k => escritoireref23_Right.f k p) (rightF (-1) p) := by
  have key : ∀ (d i : Nat) (last : Int), i + d = p.length → -1 ≤ last → (∀ h : 0 < i, ∃ h' : i - 1 < p.length, last = (p[i - 1]'h').f0) → (i = 0 → last = -1) → Ev (fun k => escritoireref23_Right.l0 k p (i : Int)) (rightF last (p.drop i)) := by
    intro d
    induction d with
    | zero =>
      intro i last hi _ _ _
      rw [List.drop_of_length_le (by omega)]
      exact Ev.step (f := fun _ => some true) (fun k => by simp only [escritoireref23_Right.l0]; rw [if_neg (by omega)]) (Ev.now _)
    | succ d ih =>
      intro i last hi hlast hprev h0
      rw [drop_cons p i (by omega), rightF]
      by_cases hneg : (p[i]'(by omega)).f0 < 0
      · rw [if_pos (by omega)]
        refine Ev.step (f := fun _ => some false) (fun k => ?_) (Ev.now _)
        simp only [escritoireref23_Right.l0]
        rw [if_pos (by omega), if_pos (by omega), rdT p i (by omega), if_pos hneg]
      · by_cases hi0 : i = 0
        · have hl := h0 hi0
          rw [if_neg (by omega)]
          refine Ev.step (fun k => ?_) (ih (i + 1) (p[i]'(by omega)).f0 (by omega) (by omega) (fun _ => ⟨by omega, by simp⟩) (by omega))
          simp only [escritoireref23_Right.l0]
          rw [if_pos (by omega), if_pos (by omega), rdT p i (by omega), if_neg hneg, if_neg (by omega), wrap_id (by omega) (by omega)]
          rfl
        · obtain ⟨h', hl⟩ := hprev (by omega)
          have ew : wrap64 ((i : Int) - 1) = ((i - 1 : Nat) : Int) := by rw [wrap_id (by omega) (by omega)]; omega
          by_cases e : (p[i]'(by omega)).f0 ≤ last
          · rw [if_pos e]
            refine Ev.step (f := fun _ => some false) (fun k => ?_) (Ev.now _)
            simp only [escritoireref23_Right.l0]
            rw [if_pos (by omega), if_pos (by omega), rdT p i (by omega), if_neg hneg, if_pos (by omega), ew, if_pos (by omega), if_pos (by omega), rdT p _ h', ← hl, if_pos e]
          · rw [if_neg e]
            refine Ev.step (fun k => ?_) (ih (i + 1) (p[i]'(by omega)).f0 (by omega) (by omega) (fun _ => ⟨by omega, by simp⟩) (by omega))
            simp only [escritoireref23_Right.l0]
            rw [if_pos (by omega), if_pos (by omega), rdT p i (by omega), if_neg hneg, if_pos (by omega), ew, if_pos (by omega), if_pos (by omega), rdT p _ h', ← hl, if_neg e, wrap_id (by omega) (by omega)]
            rfl
  exact key p.length 0 (-1) (by omega) (by omega) (fun h => absurd h (by omega)) (fun _ => rfl)
end Go.Proofs.Ytldlacphokbgcaa.Pure
