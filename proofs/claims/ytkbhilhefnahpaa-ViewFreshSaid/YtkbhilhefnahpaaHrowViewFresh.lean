/- The statement ViewFresh, in the form of the printed rows. -/
import Derived.Test.YtkbhilhefnahpaaPrint0
import Derived.Test.YtkbhilhefnahpaaLwFresh
namespace Go.Proofs.Ytkbhilhefnahpaa.Print
open Go.RowKit Go.Proofs.YtkbhilhefnahpaaW.PrintWords Go.Proofs.YtkbhilhefnahpaaW.PrintLast Go.Proofs.YtkbhilhefnahpaaW.PrintMore
set_option linter.unusedVariables false
noncomputable def escritoirelaw08_ViewFresh.f (a0 : Int) (a1 : Int) : Option Bool := @ite _ (Mem.okw a1) (Classical.propDecidable _) (some true) none
theorem escritoirelaw08_ViewFresh.calls (a0 : Int) (a1 : Int) (r : Bool) (w : World) (h : escritoirelaw08_ViewFresh.f a0 a1 = some r) :
    Calls Try.prog 3 #[.int .i64 a0, .int .u64 a1] w fun e w' => e = .returned (.bool r) ∧ Below w.heap.size w w' := by
  unfold escritoirelaw08_ViewFresh.f at h
  split at h
  · rename_i hb
    obtain rfl := Option.some.inj h
    exact Vw.ViewFresh_calls w a0 a1 hb
  · cases h
end Go.Proofs.Ytkbhilhefnahpaa.Print
