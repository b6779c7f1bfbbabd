/- The statement StoreNil over lists alone. -/
import Derived.Test.YtpkfdoefpmgfiaaPrintK
namespace Go.Proofs.Ytpkfdoefpmgfiaa.Pure
open Go Go.RowKit Go.Proofs.Ytpkfdoefpmgfiaa.Print Go.Proofs.YtpkfdoefpmgfiaaW.PrintWords Go.Proofs.YtpkfdoefpmgfiaaW.PrintLast
theorem StoreNil : escritoirelaw09_StoreNil.Pure := by
  intro a0 h0
  unfold escritoirelaw09_StoreNil.f
  exact if_pos trivial
end Go.Proofs.Ytpkfdoefpmgfiaa.Pure
