import Derived.Test.YtpkfdoefpmgfiaaHOpens
import Derived.WideShapes
import Derived.Test.YtpkfdoefpmgfiaaHrowStoreAll
import Derived.Test.YtpkfdoefpmgfiaaHrowStoreBack
import Derived.Test.YtpkfdoefpmgfiaaHrowStoreNil
namespace Go.Proofs.Ytpkfdoefpmgfiaa.Print
open Go.RowKit Go.WideShapes Go.Proofs.YtpkfdoefpmgfiaaW.PrintWords Go.Proofs.YtpkfdoefpmgfiaaW.PrintLast
def escritoirelaw09_StoreAll.Pure : Prop := ∀ (a0 : Int) (a1 : Int), ((Lit.int .i64 a0).wf = true) → ((Lit.int .i64 a1).wf = true) → escritoirelaw09_StoreAll.f a0 a1 = some true
end Go.Proofs.Ytpkfdoefpmgfiaa.Print
