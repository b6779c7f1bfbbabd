import Derived.Test.YtkbhilhefnahpaaWTab
/-! ### 56. Four, five, six operations that may come up next, in any order -/
namespace Go.Proofs.YtkbhilhefnahpaaW.PrintLast
end Go.Proofs.YtkbhilhefnahpaaW.PrintLast
