/- slices.Clone of numbers: the same numbers, in new memory. -/
import Derived.Test.YtldlacphokbgcaaPrint0
import Derived.WalkSpells
namespace Go.Proofs.Ytldlacphokbgcaa.Print
open Go.RowKit Go.Proofs.YtldlacphokbgcaaW.PrintWords Go.Proofs.YtldlacphokbgcaaW.PrintLast Go.Proofs.YtldlacphokbgcaaW.PrintMore
end Go.Proofs.Ytldlacphokbgcaa.Print
