import Derived.Test.YtkbhilhefnahpaaWWords
/-! ### 41. Arrays '[n]T' as_ values: a kind (a field, an element of a row), an element read, an element set -/
namespace Go.Proofs.YtkbhilhefnahpaaW.PrintWords
open Go.RowKit
namespace Kd
end Kd
end Go.Proofs.YtkbhilhefnahpaaW.PrintWords
