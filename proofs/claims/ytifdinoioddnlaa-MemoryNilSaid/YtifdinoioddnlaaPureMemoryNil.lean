/- The statement MemoryNil over lists alone. -/
import Derived.Test.YtifdinoioddnlaaPrintK
namespace Go.Proofs.Ytifdinoioddnlaa.Pure
open Go Go.RowKit Go.Proofs.Ytifdinoioddnlaa.Print Go.Proofs.YtifdinoioddnlaaW.PrintWords Go.Proofs.YtifdinoioddnlaaW.PrintLast
theorem MemoryNil : escritoirelaw02_MemoryNil.Pure := by
  intro a0 h0
  unfold escritoirelaw02_MemoryNil.f
  exact if_pos trivial
end Go.Proofs.Ytifdinoioddnlaa.Pure
