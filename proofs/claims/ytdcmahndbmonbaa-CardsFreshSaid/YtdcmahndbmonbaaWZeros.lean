import Derived.Test.YtdcmahndbmonbaaWApart
import Derived.Test.YtdcmahndbmonbaaWArr
/-! ### 42. append(v, make([]T, n)...): the operation comes as_ append with the number in the second place -/
namespace Go.Proofs.YtdcmahndbmonbaaW.PrintWords
open Go.RowKit
namespace Kd
/-! #### the same for rows whose elements lie apart -/
end Kd
end Go.Proofs.YtdcmahndbmonbaaW.PrintWords
