import Derived.Test.YtpkfdoefpmgfiaaHOpens
import Derived.WideShapes
import Derived.Test.YtpkfdoefpmgfiaaHrowStoreAll
import Derived.Test.YtpkfdoefpmgfiaaHrowStoreBack
import Derived.Test.YtpkfdoefpmgfiaaHrowStoreNil
namespace Go.Proofs.Ytpkfdoefpmgfiaa.Print
open Go.RowKit Go.WideShapes Go.Proofs.YtpkfdoefpmgfiaaW.PrintWords Go.Proofs.YtpkfdoefpmgfiaaW.PrintLast
def wf60 (x : S60) : Prop := ((Lit.int .i64 x.f0).wf = true) ∧ ((Lit.int .u64 x.f1).wf = true)
theorem opens60 : Opens Try.prog 60 k60 wf60 :=
  (opens_iso (fun a => (⟨a.1, a.2⟩ : S60)) (fun _ => rfl) (opens_struct Try.underlying60 (by kernel_rfl) (show OpensF Try.prog [(3, 0), (41, 1)] 0 _ _ from opensF_cons (o := 0) (opens_int Try.underlying3) (by kernel_rfl) (opensF_one (o := 1) (opens_int Try.underlying41) (by kernel_rfl))))).mono (fun _ h => h)
def escritoirelaw09_StoreBack.Pure : Prop := ∀ (l0 : List (S60)) (a1 : Int), (l0.length ≤ 9223372036854775807 ∧ l0.length * 16 ≤ 140737488351232 ∧ ∀ x_ ∈ l0, wf60 x_) → ((Lit.int .i64 a1).wf = true) → escritoirelaw09_StoreBack.f l0 a1 = some true
end Go.Proofs.Ytpkfdoefpmgfiaa.Print
