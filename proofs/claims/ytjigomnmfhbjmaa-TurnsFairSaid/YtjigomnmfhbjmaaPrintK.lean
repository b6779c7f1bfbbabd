-- Made by wip/tools/wprint.py, a program of this workplace, over the translation. Lean checks it.
import Derived.Test.YtjigomnmfhbjmaaHOpens
import Derived.WideShapes
import Derived.Test.YtjigomnmfhbjmaaPrint6
import Derived.Test.YtjigomnmfhbjmaaPrint7
namespace Go.Proofs.Ytjigomnmfhbjmaa.Print
open Go.RowKit Go.WideShapes Go.Proofs.YtjigomnmfhbjmaaW.PrintWords Go.Proofs.YtjigomnmfhbjmaaW.PrintLast
theorem okWide_str {P : Program} {w : World} {r : Reach} {base : Nat} {t : TypeId} {v : Value} {fs : Array Field} (ht : P.underlying t = some (.struct fs)) (h : Value.okWide P w r base t v) : ∃ cs, v = .agg cs := by
  simp only [Value.okWide, ht] at h
  obtain ⟨cs, h1, _⟩ := h
  exact ⟨cs, h1⟩
theorem okWide_arr {P : Program} {w : World} {r : Reach} {base : Nat} {t e : TypeId} {n : Nat} {v : Value} (ht : P.underlying t = some (.array n e)) (h : Value.okWide P w r base t v) : ∃ cs, v = .agg cs := by
  simp only [Value.okWide, ht] at h
  obtain ⟨cs, h1, _⟩ := h
  exact ⟨cs, h1⟩
def escritoirelaw22_TurnsNext.Pure : Prop := ∀ (a0 : Int) (l1 : List Bool) (l2 : List Int), ((Lit.int .i64 a0).wf = true) → (l1.length ≤ 9223372036854775807 ∧ l1.length * 1 ≤ 140737488351232 ∧ ∀ x_ ∈ l1, True) → (l2.length ≤ 9223372036854775807 ∧ l2.length * 8 ≤ 140737488351232 ∧ ∀ x_ ∈ l2, (Lit.int .i64 x_).wf = true) → ∃ k, escritoirelaw22_TurnsNext.f k a0 l1 l2 = some true
def escritoirelaw22_TurnsPlan.Pure : Prop := ∀ (l0 : List Int) (a1 : Int), (l0.length ≤ 9223372036854775807 ∧ l0.length * 8 ≤ 140737488351232 ∧ ∀ x_ ∈ l0, (Lit.int .i64 x_).wf = true) → ((Lit.int .i64 a1).wf = true) → ∃ k, escritoirelaw22_TurnsPlan.f k l0 a1 = some true
def escritoirelaw22_TurnsFair.Pure : Prop := ∀ (a0 : Int) (a1 : Int) (a2 : Int), ((Lit.int .i64 a0).wf = true) → ((Lit.int .i64 a1).wf = true) → ((Lit.int .i64 a2).wf = true) → ∃ k, escritoirelaw22_TurnsFair.f k a0 a1 a2 = some true
def escritoirelaw22_TurnsRound.Pure : Prop := ∀ (l0 : List Bool) (a1 : Int), (l0.length ≤ 9223372036854775807 ∧ l0.length * 1 ≤ 140737488351232 ∧ ∀ x_ ∈ l0, True) → ((Lit.int .i64 a1).wf = true) → ∃ k, escritoirelaw22_TurnsRound.f k l0 a1 = some true
end Go.Proofs.Ytjigomnmfhbjmaa.Print
