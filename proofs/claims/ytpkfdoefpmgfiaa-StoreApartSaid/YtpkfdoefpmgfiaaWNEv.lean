import Derived.Test.YtpkfdoefpmgfiaaWN
/-! ### 48. N's events: append, a whole row appended, zeros appended, literals, make, stores, cuts, an element taken out -/
namespace Go.Proofs.YtpkfdoefpmgfiaaW.PrintWords
open Go.RowKit
namespace Kd
end Kd
end Go.Proofs.YtpkfdoefpmgfiaaW.PrintWords
