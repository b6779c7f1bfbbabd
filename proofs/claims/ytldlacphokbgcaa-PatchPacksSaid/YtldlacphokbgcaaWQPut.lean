import Derived.Test.YtldlacphokbgcaaWWords
import Derived.Test.YtldlacphokbgcaaWLast
/-! ### 39. Stores into a row that may begin inside its block (Q): Q_form, Q_elem, Q_seg; scalars: Q_cell, Q_putg -/
namespace Go.Proofs.YtldlacphokbgcaaW.PrintWords
open Go.RowKit
namespace Kd
end Kd
end Go.Proofs.YtldlacphokbgcaaW.PrintWords
