-- Made by wip/tools/wprint.py, a program of this workplace, over the translation. Lean checks it.
import Derived.Test.YtldlacphokbgcaaHOpens
import Derived.WideShapes
import Derived.Test.YtldlacphokbgcaaPrint5
import Derived.Test.YtldlacphokbgcaaPrint7
import Derived.Test.YtldlacphokbgcaaPrint8
namespace Go.Proofs.Ytldlacphokbgcaa.Print
open Go.RowKit Go.WideShapes Go.Proofs.YtldlacphokbgcaaW.PrintWords Go.Proofs.YtldlacphokbgcaaW.PrintLast
def wf31 (x : S31) : Prop := ((Lit.int .i64 x.f0).wf = true) ∧ ((Lit.int .u64 x.f1).wf = true)
theorem opens31 : Opens Try.prog 31 k31 wf31 :=
  (opens_iso (fun a => (⟨a.1, a.2⟩ : S31)) (fun _ => rfl) (opens_struct Try.underlying31 (by kernel_rfl) (show OpensF Try.prog [(3, 0), (29, 1)] 0 _ _ from opensF_cons (o := 0) (opens_int Try.underlying3) (by kernel_rfl) (opensF_one (o := 1) (opens_int Try.underlying29) (by kernel_rfl))))).mono (fun _ h => h)
theorem okWide_str {P : Program} {w : World} {r : Reach} {base : Nat} {t : TypeId} {v : Value} {fs : Array Field} (ht : P.underlying t = some (.struct fs)) (h : Value.okWide P w r base t v) : ∃ cs, v = .agg cs := by
  simp only [Value.okWide, ht] at h
  obtain ⟨cs, h1, _⟩ := h
  exact ⟨cs, h1⟩
theorem okWide_arr {P : Program} {w : World} {r : Reach} {base : Nat} {t e : TypeId} {n : Nat} {v : Value} (ht : P.underlying t = some (.array n e)) (h : Value.okWide P w r base t v) : ∃ cs, v = .agg cs := by
  simp only [Value.okWide, ht] at h
  obtain ⟨cs, h1, _⟩ := h
  exact ⟨cs, h1⟩
def escritoirelaw23_PatchUnpacks.Pure : Prop := ∀ (l0 : List (S31)) (l1 : List Int), (l0.length ≤ 9223372036854775807 ∧ l0.length * 16 ≤ 140737488351232 ∧ ∀ x_ ∈ l0, wf31 x_) → (l1.length ≤ 9223372036854775807 ∧ l1.length * 8 ≤ 140737488351232 ∧ ∀ x_ ∈ l1, (Lit.int .u64 x_).wf = true) → ∃ k, escritoirelaw23_PatchUnpacks.f k l0 l1 = some true
def escritoirelaw23_PatchMakes.Pure : Prop := ∀ (l0 : List Int) (l1 : List Int) (l2 : List (S31)), ((l0.length ≤ 9223372036854775807 ∧ l0.length * 8 ≤ 140737488351232 ∧ ∀ x_ ∈ l0, (Lit.int .u64 x_).wf = true) ∧ l0.length ≤ 1048576) → ((l1.length ≤ 9223372036854775807 ∧ l1.length * 8 ≤ 140737488351232 ∧ ∀ x_ ∈ l1, (Lit.int .u64 x_).wf = true) ∧ l1.length ≤ 1048576) → ((l2.length ≤ 9223372036854775807 ∧ l2.length * 16 ≤ 140737488351232 ∧ ∀ x_ ∈ l2, wf31 x_) ∧ l2.length ≤ 1048576) → ∃ k, escritoirelaw23_PatchMakes.f k l0 l1 l2 = some true
def escritoirelaw23_PatchBack.Pure : Prop := ∀ (l0 : List Int) (l1 : List Int), ((l0.length ≤ 9223372036854775807 ∧ l0.length * 8 ≤ 140737488351232 ∧ ∀ x_ ∈ l0, (Lit.int .u64 x_).wf = true) ∧ l0.length ≤ 1048576) → ((l1.length ≤ 9223372036854775807 ∧ l1.length * 8 ≤ 140737488351232 ∧ ∀ x_ ∈ l1, (Lit.int .u64 x_).wf = true) ∧ l1.length ≤ 1048576) → ∃ k, escritoirelaw23_PatchBack.f k l0 l1 = some true
end Go.Proofs.Ytldlacphokbgcaa.Print
