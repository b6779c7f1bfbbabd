import Derived.Test.YtpkfdoefpmgfiaaWInv
import Derived.Test.YtpkfdoefpmgfiaaWFootNe
namespace Go.Proofs.YtpkfdoefpmgfiaaW.PrintWords
open Go.RowKit
end Go.Proofs.YtpkfdoefpmgfiaaW.PrintWords
namespace Go.Proofs.YtpkfdoefpmgfiaaW.PrintLast
end Go.Proofs.YtpkfdoefpmgfiaaW.PrintLast
