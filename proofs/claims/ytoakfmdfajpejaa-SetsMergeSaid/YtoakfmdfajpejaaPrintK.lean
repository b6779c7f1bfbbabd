-- Made by wip/tools/wprint.py, a program of this workplace, over the translation. Lean checks it.
import Derived.Test.YtoakfmdfajpejaaHOpens
import Derived.WideShapes
import Derived.Test.YtoakfmdfajpejaaHrowSetsClash
import Derived.Test.YtoakfmdfajpejaaHrowSetsFresh
import Derived.Test.YtoakfmdfajpejaaHrowSetsMerge
namespace Go.Proofs.Ytoakfmdfajpejaa.Print
open Go.RowKit Go.WideShapes Go.Proofs.YtoakfmdfajpejaaW.PrintWords Go.Proofs.YtoakfmdfajpejaaW.PrintLast
theorem okWide_str {P : Program} {w : World} {r : Reach} {base : Nat} {t : TypeId} {v : Value} {fs : Array Field} (ht : P.underlying t = some (.struct fs)) (h : Value.okWide P w r base t v) : ∃ cs, v = .agg cs := by
  simp only [Value.okWide, ht] at h
  obtain ⟨cs, h1, _⟩ := h
  exact ⟨cs, h1⟩
theorem okWide_arr {P : Program} {w : World} {r : Reach} {base : Nat} {t e : TypeId} {n : Nat} {v : Value} (ht : P.underlying t = some (.array n e)) (h : Value.okWide P w r base t v) : ∃ cs, v = .agg cs := by
  simp only [Value.okWide, ht] at h
  obtain ⟨cs, h1, _⟩ := h
  exact ⟨cs, h1⟩
def escritoirelaw15_SetsFresh.Pure : Prop := ∀ (l0 : List Int) (l1 : List Int) (l2 : List Int), (l0.length ≤ 9223372036854775807 ∧ l0.length * 8 ≤ 140737488351232 ∧ ∀ x_ ∈ l0, (Lit.int .i64 x_).wf = true) → (l1.length ≤ 9223372036854775807 ∧ l1.length * 8 ≤ 140737488351232 ∧ ∀ x_ ∈ l1, (Lit.int .u64 x_).wf = true) → (l2.length ≤ 9223372036854775807 ∧ l2.length * 8 ≤ 140737488351232 ∧ ∀ x_ ∈ l2, (Lit.int .u64 x_).wf = true) → escritoirelaw15_SetsFresh.f l0 l1 l2 = some true
def escritoirelaw15_SetsMerge.Pure : Prop := ∀ (l0 : List Int) (l1 : List Int) (l2 : List Int), (l0.length ≤ 9223372036854775807 ∧ l0.length * 8 ≤ 140737488351232 ∧ ∀ x_ ∈ l0, (Lit.int .i64 x_).wf = true) → (l1.length ≤ 9223372036854775807 ∧ l1.length * 8 ≤ 140737488351232 ∧ ∀ x_ ∈ l1, (Lit.int .i64 x_).wf = true) → (l2.length ≤ 9223372036854775807 ∧ l2.length * 8 ≤ 140737488351232 ∧ ∀ x_ ∈ l2, (Lit.int .u64 x_).wf = true) → escritoirelaw15_SetsMerge.f l0 l1 l2 = some true
def escritoirelaw15_SetsClash.Pure : Prop := ∀ (l0 : List Int) (l1 : List Int), (l0.length ≤ 9223372036854775807 ∧ l0.length * 8 ≤ 140737488351232 ∧ ∀ x_ ∈ l0, (Lit.int .i64 x_).wf = true) → (l1.length ≤ 9223372036854775807 ∧ l1.length * 8 ≤ 140737488351232 ∧ ∀ x_ ∈ l1, (Lit.int .i64 x_).wf = true) → escritoirelaw15_SetsClash.f l0 l1 = some true
end Go.Proofs.Ytoakfmdfajpejaa.Print
