import Derived.Test.YtldlacphokbgcaaWTab
/-! ### 56. Four, five, six operations that may come up next, in any order -/
namespace Go.Proofs.YtldlacphokbgcaaW.PrintLast
end Go.Proofs.YtldlacphokbgcaaW.PrintLast
