import Derived.Test.YtpkfdoefpmgfiaaHOpens
import Derived.WideShapes
import Derived.Test.YtpkfdoefpmgfiaaHrowStoreAll
import Derived.Test.YtpkfdoefpmgfiaaHrowStoreApart
import Derived.Test.YtpkfdoefpmgfiaaHrowStoreBack
import Derived.Test.YtpkfdoefpmgfiaaHrowStoreNil
namespace Go.Proofs.Ytpkfdoefpmgfiaa.Print
open Go.RowKit Go.WideShapes Go.Proofs.YtpkfdoefpmgfiaaW.PrintWords Go.Proofs.YtpkfdoefpmgfiaaW.PrintLast
def escritoirelaw09_StoreApart.Pure : Prop := ∀ (l0 : List Bool), (l0.length ≤ 9223372036854775807 ∧ l0.length * 1 ≤ 140737488351232 ∧ ∀ x_ ∈ l0, True) → escritoirelaw09_StoreApart.f l0 = some true
end Go.Proofs.Ytpkfdoefpmgfiaa.Print
