import Derived.Test.YtkbhilhefnahpaaHOpens
import Derived.WideShapes
import Derived.Test.YtkbhilhefnahpaaHrowViewFresh
import Derived.Test.YtkbhilhefnahpaaHrowViewNil
namespace Go.Proofs.Ytkbhilhefnahpaa.Print
open Go.RowKit Go.WideShapes Go.Proofs.YtkbhilhefnahpaaW.PrintWords Go.Proofs.YtkbhilhefnahpaaW.PrintLast
def escritoirelaw08_ViewFresh.Pure : Prop := ∀ (a0 : Int) (a1 : Int), ((Lit.int .i64 a0).wf = true) → ((Lit.int .u64 a1).wf = true) → escritoirelaw08_ViewFresh.f a0 a1 = some true
end Go.Proofs.Ytkbhilhefnahpaa.Print
