import Derived.Test.YtdcmahndbmonbaaWApart
import Derived.Test.YtdcmahndbmonbaaWArr
/-! ### 43. What is read beside a state: it stays read whatever the state's calls turn ('∀ W', KeepBut w W' g none → d.C W' A n xs') -/
