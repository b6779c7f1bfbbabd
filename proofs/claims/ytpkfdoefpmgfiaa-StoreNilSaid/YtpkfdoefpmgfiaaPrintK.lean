import Derived.Test.YtpkfdoefpmgfiaaHOpens
import Derived.WideShapes
import Derived.Test.YtpkfdoefpmgfiaaHrowStoreAll
import Derived.Test.YtpkfdoefpmgfiaaHrowStoreBack
import Derived.Test.YtpkfdoefpmgfiaaHrowStoreNil
namespace Go.Proofs.Ytpkfdoefpmgfiaa.Print
open Go.RowKit Go.WideShapes Go.Proofs.YtpkfdoefpmgfiaaW.PrintWords Go.Proofs.YtpkfdoefpmgfiaaW.PrintLast
def escritoirelaw09_StoreNil.Pure : Prop := ∀ (a0 : Int), ((Lit.int .i64 a0).wf = true) → escritoirelaw09_StoreNil.f a0 = some true
end Go.Proofs.Ytpkfdoefpmgfiaa.Print
