/- The statement StoreNil, in the form of the printed rows. -/
import Derived.Test.YtpkfdoefpmgfiaaPrint0
import Derived.Test.YtpkfdoefpmgfiaaLwNil
namespace Go.Proofs.Ytpkfdoefpmgfiaa.Print
open Go.RowKit Go.Proofs.YtpkfdoefpmgfiaaW.PrintWords Go.Proofs.YtpkfdoefpmgfiaaW.PrintLast Go.Proofs.YtpkfdoefpmgfiaaW.PrintMore
set_option linter.unusedVariables false
noncomputable def escritoirelaw09_StoreNil.f (a0 : Int) : Option Bool := @ite _ (True) (Classical.propDecidable _) (some true) none
theorem escritoirelaw09_StoreNil.calls (a0 : Int) (r : Bool) (w : World) (h : escritoirelaw09_StoreNil.f a0 = some r) :
    Calls Try.prog 6 #[.int .i64 a0] w fun e w' => e = .returned (.bool r) ∧ Below w.heap.size w w' := by
  unfold escritoirelaw09_StoreNil.f at h
  split at h
  · rename_i hb
    obtain rfl := Option.some.inj h
    exact Sto.StoreNil_calls w a0
  · cases h
end Go.Proofs.Ytpkfdoefpmgfiaa.Print
