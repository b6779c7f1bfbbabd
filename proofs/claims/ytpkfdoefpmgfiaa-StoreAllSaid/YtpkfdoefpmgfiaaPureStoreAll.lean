/- The statement StoreAll over lists alone. -/
import Derived.Test.YtpkfdoefpmgfiaaPrintK
namespace Go.Proofs.Ytpkfdoefpmgfiaa.Pure
open Go Go.RowKit Go.Proofs.Ytpkfdoefpmgfiaa.Print Go.Proofs.YtpkfdoefpmgfiaaW.PrintWords Go.Proofs.YtpkfdoefpmgfiaaW.PrintLast
theorem StoreAll : escritoirelaw09_StoreAll.Pure := by
  intro a0 a1 h0 h1
  unfold escritoirelaw09_StoreAll.f
  exact if_pos trivial
end Go.Proofs.Ytpkfdoefpmgfiaa.Pure
