/- The statement ViewNil over lists alone. -/
import Derived.Test.YtkbhilhefnahpaaPrintK
namespace Go.Proofs.Ytkbhilhefnahpaa.Pure
open Go Go.RowKit Go.Proofs.Ytkbhilhefnahpaa.Print Go.Proofs.YtkbhilhefnahpaaW.PrintWords Go.Proofs.YtkbhilhefnahpaaW.PrintLast
theorem ViewNil : escritoirelaw08_ViewNil.Pure := by
  intro a0 a1 h0 h1
  unfold escritoirelaw08_ViewNil.f
  exact if_pos trivial
end Go.Proofs.Ytkbhilhefnahpaa.Pure
