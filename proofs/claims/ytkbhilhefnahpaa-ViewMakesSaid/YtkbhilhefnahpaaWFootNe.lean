import Derived.Test.YtkbhilhefnahpaaWN
/-! ### 52. A row that stays read whatever happens to a block (a set of blocks) doesn't lie there -/
namespace Go.Proofs.YtkbhilhefnahpaaW.PrintWords
open Go.RowKit
namespace Kd
end Kd
end Go.Proofs.YtkbhilhefnahpaaW.PrintWords
