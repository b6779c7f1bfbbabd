import Derived.Test.YtdcmahndbmonbaaWApart
import Derived.Test.YtdcmahndbmonbaaWArr
/-! ### 42. append(v, make([]T, n)...): the operation comes as_ append with the number in the second place -/
