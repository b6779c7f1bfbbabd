-- Made by wip/tools/wprint.py, a program of this workplace, over the translation. Lean checks it.
import Derived.Test.YtoakfmdfajpejaaHOpens
import Derived.WideShapes
import Derived.Test.YtoakfmdfajpejaaHrowSetsClash
import Derived.Test.YtoakfmdfajpejaaHrowSetsFresh
import Derived.Test.YtoakfmdfajpejaaHrowSetsHolds
import Derived.Test.YtoakfmdfajpejaaHrowSetsMerge
namespace Go.Proofs.Ytoakfmdfajpejaa.Print
open Go.RowKit Go.WideShapes Go.Proofs.YtoakfmdfajpejaaW.PrintWords Go.Proofs.YtoakfmdfajpejaaW.PrintLast
def wf50 (x : S50) : Prop := ((Lit.int .i64 x.f0).wf = true) ∧ ((Lit.int .i64 x.f1).wf = true)
theorem opens50 : Opens Try.prog 50 k50 wf50 :=
  (opens_iso (fun a => (⟨a.1, a.2⟩ : S50)) (fun _ => rfl) (opens_struct Try.underlying50 (by kernel_rfl) (show OpensF Try.prog [(3, 0), (3, 1)] 0 _ _ from opensF_cons (o := 0) (opens_int Try.underlying3) (by kernel_rfl) (opensF_one (o := 1) (opens_int Try.underlying3) (by kernel_rfl))))).mono (fun _ h => h)
theorem okWide_str {P : Program} {w : World} {r : Reach} {base : Nat} {t : TypeId} {v : Value} {fs : Array Field} (ht : P.underlying t = some (.struct fs)) (h : Value.okWide P w r base t v) : ∃ cs, v = .agg cs := by
  simp only [Value.okWide, ht] at h
  obtain ⟨cs, h1, _⟩ := h
  exact ⟨cs, h1⟩
theorem okWide_arr {P : Program} {w : World} {r : Reach} {base : Nat} {t e : TypeId} {n : Nat} {v : Value} (ht : P.underlying t = some (.array n e)) (h : Value.okWide P w r base t v) : ∃ cs, v = .agg cs := by
  simp only [Value.okWide, ht] at h
  obtain ⟨cs, h1, _⟩ := h
  exact ⟨cs, h1⟩
def escritoirelaw15_SetsFresh.Pure : Prop := ∀ (l0 : List Int) (l1 : List Int) (l2 : List Int), (l0.length ≤ 9223372036854775807 ∧ l0.length * 8 ≤ 140737488351232 ∧ ∀ x_ ∈ l0, (Lit.int .i64 x_).wf = true) → (l1.length ≤ 9223372036854775807 ∧ l1.length * 8 ≤ 140737488351232 ∧ ∀ x_ ∈ l1, (Lit.int .u64 x_).wf = true) → (l2.length ≤ 9223372036854775807 ∧ l2.length * 8 ≤ 140737488351232 ∧ ∀ x_ ∈ l2, (Lit.int .u64 x_).wf = true) → escritoirelaw15_SetsFresh.f l0 l1 l2 = some true
def escritoirelaw15_SetsMerge.Pure : Prop := ∀ (l0 : List Int) (l1 : List Int) (l2 : List Int), (l0.length ≤ 9223372036854775807 ∧ l0.length * 8 ≤ 140737488351232 ∧ ∀ x_ ∈ l0, (Lit.int .i64 x_).wf = true) → (l1.length ≤ 9223372036854775807 ∧ l1.length * 8 ≤ 140737488351232 ∧ ∀ x_ ∈ l1, (Lit.int .i64 x_).wf = true) → (l2.length ≤ 9223372036854775807 ∧ l2.length * 8 ≤ 140737488351232 ∧ ∀ x_ ∈ l2, (Lit.int .u64 x_).wf = true) → escritoirelaw15_SetsMerge.f l0 l1 l2 = some true
def escritoirelaw15_SetsHolds.Pure : Prop := ∀ (l0 : List (S50)) (l1 : List Int) (a2 : Int), (l0.length ≤ 9223372036854775807 ∧ l0.length * 16 ≤ 140737488351232 ∧ ∀ x_ ∈ l0, wf50 x_) → (l1.length ≤ 9223372036854775807 ∧ l1.length * 8 ≤ 140737488351232 ∧ ∀ x_ ∈ l1, (Lit.int .i64 x_).wf = true) → ((Lit.int .i64 a2).wf = true) → escritoirelaw15_SetsHolds.f l0 l1 a2 = some true
def escritoirelaw15_SetsClash.Pure : Prop := ∀ (l0 : List Int) (l1 : List Int), (l0.length ≤ 9223372036854775807 ∧ l0.length * 8 ≤ 140737488351232 ∧ ∀ x_ ∈ l0, (Lit.int .i64 x_).wf = true) → (l1.length ≤ 9223372036854775807 ∧ l1.length * 8 ≤ 140737488351232 ∧ ∀ x_ ∈ l1, (Lit.int .i64 x_).wf = true) → escritoirelaw15_SetsClash.f l0 l1 = some true
end Go.Proofs.Ytoakfmdfajpejaa.Print
