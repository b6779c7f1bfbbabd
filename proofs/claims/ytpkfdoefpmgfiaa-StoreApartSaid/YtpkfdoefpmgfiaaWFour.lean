import Derived.Test.YtpkfdoefpmgfiaaWTab
/-! ### 56. Four, five, six operations that may come up next, in any order -/
namespace Go.Proofs.YtpkfdoefpmgfiaaW.PrintLast
end Go.Proofs.YtpkfdoefpmgfiaaW.PrintLast
