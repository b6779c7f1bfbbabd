import Derived.Test.YtkbhilhefnahpaaWWords
import Derived.Test.YtkbhilhefnahpaaWLast
/-! ### 39. Stores into a row that may begin inside its block (Q): Q_form, Q_elem, Q_seg; scalars: Q_cell, Q_putg -/
namespace Go.Proofs.YtkbhilhefnahpaaW.PrintWords
open Go.RowKit
namespace Kd
end Kd
end Go.Proofs.YtkbhilhefnahpaaW.PrintWords
