import Derived.Test.YtdcmahndbmonbaaWTab
/-! ### 56. Four, five, six operations that may come up next, in any order -/
namespace Go.Proofs.YtdcmahndbmonbaaW.PrintLast
end Go.Proofs.YtdcmahndbmonbaaW.PrintLast
