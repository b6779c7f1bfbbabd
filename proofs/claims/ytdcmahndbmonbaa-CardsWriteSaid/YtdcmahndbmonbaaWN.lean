import Derived.Test.YtdcmahndbmonbaaWShare
import Derived.Test.YtdcmahndbmonbaaWZeros
/-! ### 47. N: a row of the call's own whose elements share (what they lead to is only read) -/
