/- Events of a region that draws its order, by the laws of the plain walk. -/
import Derived.Test.YtngncegokmppiaaFloT
import Derived.Test.YtngncegokmppiaaFloKb
namespace Go.Proofs.Ytngncegokmppiaa.Reg
open Go
set_option linter.unusedVariables false
set_option linter.unusedSimpArgs false
section
variable {P : Program} {ops : Array Oper} {Inv : World → Prop} {ev : Nat → Bool} {Q : Act → World → Prop}
theorem wp_only {o : Oper} {a : Act} {w : World} {K K' : Act → World → Prop} {Q : Exit → Act → World → Prop} (hq : ∀ e a w, Q e a w → e = .normal) (h : ∀ a' w', K a' w' → K' a' w') (hh : o.wp P a w K Q) : o.wp P a w K' noQ := by
  unfold Oper.wp at *
  generalize (execOp a.eval o).run P w = r at *
  cases r with
  | ok n w' =>
    cases n <;> simp only [Oper.upon] at hh ⊢
    case value u => exact h _ _ hh
    case skip => exact h _ _ hh
    case defer d => exact h _ _ hh
    case enter f args =>
      refine hh.mono fun e w'' he => ?_
      cases e with
      | returned v => exact h _ _ he
      | panicked ch => cases hq _ _ _ he
      | outgrown => obtain ⟨a0, w0, h0⟩ := he; cases hq _ _ _ h0
    case row rw_ args => exact hh.mono fun v w'' hv => h _ _ hv
  | halt x w' =>
    cases x <;> simp only [Oper.upon] at hh ⊢
    case panic v => cases hq _ _ _ hh
/-- One step: an event, as the plain walk has it. -/
theorem S_list {i : Nat} {r : List Oper} {a : Act} {w : World} {o : Oper} (he : ev i = true) (hw : Region.wanted o (yielded ops a.tmps) = true)
    (h : wpList P ops (fun e a w => e = .normal ∧ Inv w ∧ wpS P ops Inv ev Q r (i + 1) a w) [o] a w) : wpS P ops Inv ev Q (o :: r) i a w := by
  unfold wpS
  rw [if_pos he]
  unfold opE
  rw [if_pos hw]
  unfold wpList at h
  rw [if_pos hw] at h
  rcases h with h | ⟨_, hl⟩
  · exact wp_only (fun e a w h => h.1) (fun a' w' hk => ⟨hk.2.1, hk.2.1, hk.2.2⟩) h
  · exfalso
    obtain ⟨a0, w0, h0⟩ := hl
    cases h0.1
theorem L_end {i : Nat} {r : List Oper} {a : Act} {w : World} (hi : Inv w) (h : wpS P ops Inv ev Q r i a w) : wpList P ops (fun e a w => e = .normal ∧ Inv w ∧ wpS P ops Inv ev Q r i a w) [] a w := ⟨rfl, hi, h⟩
end
end Go.Proofs.Ytngncegokmppiaa.Reg
