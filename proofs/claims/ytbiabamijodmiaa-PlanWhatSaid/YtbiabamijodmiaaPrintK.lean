-- Made by wip/tools/wprint.py, a program of this workplace, over the translation. Lean checks it.
import Derived.Test.YtbiabamijodmiaaHOpens
import Derived.WideShapes
import Derived.Test.YtbiabamijodmiaaPrint2
import Derived.Test.YtbiabamijodmiaaPrint3
import Derived.Test.YtbiabamijodmiaaPrint4
import Derived.Test.YtbiabamijodmiaaPrint5
import Derived.Test.YtbiabamijodmiaaPrint7
namespace Go.Proofs.Ytbiabamijodmiaa.Print
open Go.RowKit Go.WideShapes Go.Proofs.YtbiabamijodmiaaW.PrintWords Go.Proofs.YtbiabamijodmiaaW.PrintLast
theorem okWide_str {P : Program} {w : World} {r : Reach} {base : Nat} {t : TypeId} {v : Value} {fs : Array Field} (ht : P.underlying t = some (.struct fs)) (h : Value.okWide P w r base t v) : ∃ cs, v = .agg cs := by
  simp only [Value.okWide, ht] at h
  obtain ⟨cs, h1, _⟩ := h
  exact ⟨cs, h1⟩
theorem okWide_arr {P : Program} {w : World} {r : Reach} {base : Nat} {t e : TypeId} {n : Nat} {v : Value} (ht : P.underlying t = some (.array n e)) (h : Value.okWide P w r base t v) : ∃ cs, v = .agg cs := by
  simp only [Value.okWide, ht] at h
  obtain ⟨cs, h1, _⟩ := h
  exact ⟨cs, h1⟩
def escritoirelaw05_PlanWhole.Pure : Prop := ∀ (a0 : Int), ((Lit.int .i64 a0).wf = true) → ∃ k, escritoirelaw05_PlanWhole.f k a0 = some true
def escritoirelaw05_PlanFirst.Pure : Prop := ∀ (a0 : Int), ((Lit.int .i64 a0).wf = true) → ∃ k, escritoirelaw05_PlanFirst.f k a0 = some true
def escritoirelaw05_PlanCounts.Pure : Prop := ∀ (a0 : Int), ((Lit.int .i64 a0).wf = true) → ∃ k, escritoirelaw05_PlanCounts.f k a0 = some true
def escritoirelaw05_PlanHead.Pure : Prop := ∀ (l0 : List Int) (a1 : Int) (a2 : Int), (l0.length ≤ 9223372036854775807 ∧ l0.length * 8 ≤ 140737488351232 ∧ ∀ x_ ∈ l0, (Lit.int .u64 x_).wf = true) → ((Lit.int .i64 a1).wf = true) → ((Lit.int .u64 a2).wf = true) → ∃ k, escritoirelaw05_PlanHead.f k l0 a1 a2 = some true
def escritoirelaw05_PlanWhat.Pure : Prop := ∀ (a0 : Int) (l1 : List Int) (a2 : Int), ((Lit.int .i64 a0).wf = true) → (l1.length ≤ 9223372036854775807 ∧ l1.length * 8 ≤ 140737488351232 ∧ ∀ x_ ∈ l1, (Lit.int .u64 x_).wf = true) → ((Lit.int .i64 a2).wf = true) → ∃ k, escritoirelaw05_PlanWhat.f k a0 l1 a2 = some true
end Go.Proofs.Ytbiabamijodmiaa.Print
