import Derived.Test.YtldlacphokbgcaaWInv
import Derived.Test.YtldlacphokbgcaaWFootNe
namespace Go.Proofs.YtldlacphokbgcaaW.PrintWords
open Go.RowKit
end Go.Proofs.YtldlacphokbgcaaW.PrintWords
namespace Go.Proofs.YtldlacphokbgcaaW.PrintLast
end Go.Proofs.YtldlacphokbgcaaW.PrintLast
