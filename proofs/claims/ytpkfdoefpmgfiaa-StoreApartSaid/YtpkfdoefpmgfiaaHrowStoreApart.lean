/- The statement StoreApart, in the form of the printed rows. -/
import Derived.Test.YtpkfdoefpmgfiaaPrint0
import Derived.Test.YtpkfdoefpmgfiaaLwApart
namespace Go.Proofs.Ytpkfdoefpmgfiaa.Print
open Go.RowKit Go.Proofs.YtpkfdoefpmgfiaaW.PrintWords Go.Proofs.YtpkfdoefpmgfiaaW.PrintLast Go.Proofs.YtpkfdoefpmgfiaaW.PrintMore
set_option linter.unusedVariables false
noncomputable def escritoirelaw09_StoreApart.f (l0 : List Bool) : Option Bool := @ite _ (True) (Classical.propDecidable _) (some true) none
theorem escritoirelaw09_StoreApart.calls (A0 : Option Addr) (c0 : Nat) (l0 : List Bool) (r : Bool) (w : World) (hr0 : Kd.C Kd.bool w A0 l0.length l0) (hc0 : l0.length ≤ c0) (h : escritoirelaw09_StoreApart.f l0 = some r) :
    Calls Try.prog 3 #[.slice A0 l0.length c0] w fun e w' => e = .returned (.bool r) ∧ Below w.heap.size w w' := by
  unfold escritoirelaw09_StoreApart.f at h
  split at h
  · rename_i hb
    obtain rfl := Option.some.inj h
    exact Sto.StoreApart_calls w A0 c0 l0 hr0
  · cases h
end Go.Proofs.Ytpkfdoefpmgfiaa.Print
