import Derived.Test.YtdcmahndbmonbaaWFoot
/-! ### 45. What a call keeps: all but the blocks of S (the rows that it was given to write) and what is new since -/
