import Derived.Test.YtldlacphokbgcaaHOpens
import Derived.WideShapes
import Derived.Test.YtldlacphokbgcaaPrint5
import Derived.Test.YtldlacphokbgcaaPrint7
import Derived.Test.YtldlacphokbgcaaPrint8
import Derived.Test.YtldlacphokbgcaaPrint16
import Derived.Test.YtldlacphokbgcaaPrint19
namespace Go.Proofs.Ytldlacphokbgcaa.Print
open Go.RowKit Go.WideShapes Go.Proofs.YtldlacphokbgcaaW.PrintWords Go.Proofs.YtldlacphokbgcaaW.PrintLast
def wf31 (x : S31) : Prop := ((Lit.int .i64 x.f0).wf = true) ∧ ((Lit.int .u64 x.f1).wf = true)
theorem opens31 : Opens Try.prog 31 k31 wf31 :=
  (opens_iso (fun a => (⟨a.1, a.2⟩ : S31)) (fun _ => rfl) (opens_struct Try.underlying31 (by kernel_rfl) (show OpensF Try.prog [(3, 0), (29, 1)] 0 _ _ from opensF_cons (o := 0) (opens_int Try.underlying3) (by kernel_rfl) (opensF_one (o := 1) (opens_int Try.underlying29) (by kernel_rfl))))).mono (fun _ h => h)
def escritoirelaw23_PatchPacks.Pure : Prop := ∀ (l0 : List (S31)) (l1 : List (S31)) (l2 : List Int), (l0.length ≤ 9223372036854775807 ∧ l0.length * 16 ≤ 140737488351232 ∧ ∀ x_ ∈ l0, wf31 x_) → (l1.length ≤ 9223372036854775807 ∧ l1.length * 16 ≤ 140737488351232 ∧ ∀ x_ ∈ l1, wf31 x_) → (l2.length ≤ 9223372036854775807 ∧ l2.length * 8 ≤ 140737488351232 ∧ ∀ x_ ∈ l2, (Lit.int .u64 x_).wf = true) → ∃ k, escritoirelaw23_PatchPacks.f k l0 l1 l2 = some true
end Go.Proofs.Ytldlacphokbgcaa.Print
