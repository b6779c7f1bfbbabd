import Derived.Test.YtkbhilhefnahpaaWInv
import Derived.Test.YtkbhilhefnahpaaWFootNe
namespace Go.Proofs.YtkbhilhefnahpaaW.PrintWords
open Go.RowKit
end Go.Proofs.YtkbhilhefnahpaaW.PrintWords
namespace Go.Proofs.YtkbhilhefnahpaaW.PrintLast
end Go.Proofs.YtkbhilhefnahpaaW.PrintLast
