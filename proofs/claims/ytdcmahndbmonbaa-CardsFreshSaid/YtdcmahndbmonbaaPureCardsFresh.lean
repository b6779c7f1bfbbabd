/- The statement CardsFresh over lists alone. -/
import Derived.Test.YtdcmahndbmonbaaPrintK
namespace Go.Proofs.Ytdcmahndbmonbaa.Pure
open Go Go.RowKit Go.Proofs.Ytdcmahndbmonbaa.Print Go.Proofs.YtdcmahndbmonbaaW.PrintWords Go.Proofs.YtdcmahndbmonbaaW.PrintLast
theorem CardsFresh : escritoirelaw06_CardsFresh.Pure := by
  intro a0 a1 h0 h1
  unfold escritoirelaw06_CardsFresh.f
  exact if_pos trivial
end Go.Proofs.Ytdcmahndbmonbaa.Pure
