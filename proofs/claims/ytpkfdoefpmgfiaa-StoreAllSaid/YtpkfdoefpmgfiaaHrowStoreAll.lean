/- The statement StoreAll, in the form of the printed rows. -/
import Derived.Test.YtpkfdoefpmgfiaaPrint0
import Derived.Test.YtpkfdoefpmgfiaaLwAll
namespace Go.Proofs.Ytpkfdoefpmgfiaa.Print
open Go.RowKit Go.Proofs.YtpkfdoefpmgfiaaW.PrintWords Go.Proofs.YtpkfdoefpmgfiaaW.PrintLast Go.Proofs.YtpkfdoefpmgfiaaW.PrintMore
set_option linter.unusedVariables false
noncomputable def escritoirelaw09_StoreAll.f (a0 : Int) (a1 : Int) : Option Bool := @ite _ (True) (Classical.propDecidable _) (some true) none
theorem escritoirelaw09_StoreAll.calls (a0 : Int) (a1 : Int) (r : Bool) (w : World) (h : escritoirelaw09_StoreAll.f a0 a1 = some r) :
    Calls Try.prog 4 #[.int .i64 a0, .int .i64 a1] w fun e w' => e = .returned (.bool r) ∧ Below w.heap.size w w' := by
  unfold escritoirelaw09_StoreAll.f at h
  split at h
  · rename_i hb
    obtain rfl := Option.some.inj h
    exact Sto.StoreAll_calls w a0 a1
  · cases h
end Go.Proofs.Ytpkfdoefpmgfiaa.Print
