import Derived.Test.YtldlacphokbgcaaWLast
import Derived.Test.YtldlacphokbgcaaWWords
/-! ### 50. A region's order in a table, made once a region: each step asks the table (numbers alone), not the operations -/
namespace Go.Proofs.YtldlacphokbgcaaW.PrintLast
open Go.Proofs.YtldlacphokbgcaaW.PrintWords (Aside0)
end Go.Proofs.YtldlacphokbgcaaW.PrintLast
