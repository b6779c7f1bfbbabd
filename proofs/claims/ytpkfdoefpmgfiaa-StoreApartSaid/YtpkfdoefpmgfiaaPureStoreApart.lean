/- The statement StoreApart over lists alone. -/
import Derived.Test.YtpkfdoefpmgfiaaPrintK
namespace Go.Proofs.Ytpkfdoefpmgfiaa.Pure
open Go Go.RowKit Go.Proofs.Ytpkfdoefpmgfiaa.Print Go.Proofs.YtpkfdoefpmgfiaaW.PrintWords Go.Proofs.YtpkfdoefpmgfiaaW.PrintLast
theorem StoreApart : escritoirelaw09_StoreApart.Pure := by
  intro l0 h0
  unfold escritoirelaw09_StoreApart.f
  exact if_pos trivial
end Go.Proofs.Ytpkfdoefpmgfiaa.Pure
