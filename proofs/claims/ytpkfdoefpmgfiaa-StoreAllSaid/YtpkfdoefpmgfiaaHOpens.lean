/- What an argument reads as, kind by kind: from the form's reading to the words' kinds. -/
import Derived.Test.YtpkfdoefpmgfiaaPrint0
import Derived.Deep.Slices
import Derived.ChangeArms
namespace Go.Proofs.Ytpkfdoefpmgfiaa.Print
open Go.RowKit Go.Proofs.YtpkfdoefpmgfiaaW.PrintWords Go.Proofs.YtpkfdoefpmgfiaaW.PrintLast Go.Proofs.YtpkfdoefpmgfiaaW.PrintMore
end Go.Proofs.Ytpkfdoefpmgfiaa.Print
