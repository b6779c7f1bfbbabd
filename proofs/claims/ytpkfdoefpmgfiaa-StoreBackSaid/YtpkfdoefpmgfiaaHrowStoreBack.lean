/- The statement StoreBack, in the form of the printed rows. -/
import Derived.Test.YtpkfdoefpmgfiaaPrint0
import Derived.Test.YtpkfdoefpmgfiaaLwBack
namespace Go.Proofs.Ytpkfdoefpmgfiaa.Print
open Go.RowKit Go.Proofs.YtpkfdoefpmgfiaaW.PrintWords Go.Proofs.YtpkfdoefpmgfiaaW.PrintLast Go.Proofs.YtpkfdoefpmgfiaaW.PrintMore
set_option linter.unusedVariables false
noncomputable def escritoirelaw09_StoreBack.f (l0 : List S60) (a1 : Int) : Option Bool := @ite _ (∀ x ∈ l0, Mem.okw x.f1) (Classical.propDecidable _) (some true) none
theorem escritoirelaw09_StoreBack.calls (A0 : Option Addr) (c0 : Nat) (l0 : List S60) (a1 : Int) (r : Bool) (w : World) (hr0 : Kd.C k60 w A0 l0.length l0) (hc0 : l0.length ≤ c0) (h : escritoirelaw09_StoreBack.f l0 a1 = some r) :
    Calls Try.prog 5 #[.slice A0 l0.length c0, .int .i64 a1] w fun e w' => e = .returned (.bool r) ∧ Below w.heap.size w w' := by
  unfold escritoirelaw09_StoreBack.f at h
  split at h
  · rename_i hb
    obtain rfl := Option.some.inj h
    exact Sto.StoreBack_calls w A0 c0 l0 a1 hr0 hc0 hb
  · cases h
end Go.Proofs.Ytpkfdoefpmgfiaa.Print
