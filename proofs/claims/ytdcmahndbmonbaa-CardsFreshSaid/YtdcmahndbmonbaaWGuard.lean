import Derived.Test.YtdcmahndbmonbaaWWords
/-! ### 58. A guarded operation whose guard is known to want it: the same goal without the guard -/
namespace Go.Proofs.YtdcmahndbmonbaaW.PrintWords
open Go.RowKit
end Go.Proofs.YtdcmahndbmonbaaW.PrintWords
