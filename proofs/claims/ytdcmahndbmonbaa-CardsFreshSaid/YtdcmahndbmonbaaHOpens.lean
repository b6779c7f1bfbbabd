/- What an argument reads as, kind by kind: from the form's reading to the words' kinds. -/
import Derived.Test.YtdcmahndbmonbaaPrint0
import Derived.Deep.Slices
import Derived.ChangeArms
namespace Go.Proofs.Ytdcmahndbmonbaa.Print
open Go.RowKit Go.Proofs.YtdcmahndbmonbaaW.PrintWords Go.Proofs.YtdcmahndbmonbaaW.PrintLast Go.Proofs.YtdcmahndbmonbaaW.PrintMore
end Go.Proofs.Ytdcmahndbmonbaa.Print
