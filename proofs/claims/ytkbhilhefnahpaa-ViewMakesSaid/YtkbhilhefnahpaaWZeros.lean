import Derived.Test.YtkbhilhefnahpaaWApart
import Derived.Test.YtkbhilhefnahpaaWArr
/-! ### 42. append(v, make([]T, n)...): the operation comes as_ append with the number in the second place -/
namespace Go.Proofs.YtkbhilhefnahpaaW.PrintWords
open Go.RowKit
namespace Kd
/-! #### the same for rows whose elements lie apart -/
end Kd
end Go.Proofs.YtkbhilhefnahpaaW.PrintWords
