/- The statement MemoryKeeps, in the form of the printed rows. -/
import Derived.Test.YtifdinoioddnlaaPrint0
import Derived.Test.YtifdinoioddnlaaLawKeeps
namespace Go.Proofs.Ytifdinoioddnlaa.Print
open Go.RowKit Go.Proofs.YtifdinoioddnlaaW.PrintWords Go.Proofs.YtifdinoioddnlaaW.PrintLast Go.Proofs.YtifdinoioddnlaaW.PrintMore
set_option linter.unusedVariables false
noncomputable def escritoirelaw02_MemoryKeeps.f (l0 : List S40) : Option Bool := @ite _ (∀ o ∈ l0, Mem.okOp o) (Classical.propDecidable _) (some true) none
theorem escritoirelaw02_MemoryKeeps.calls (A0 : Option Addr) (c0 : Nat) (l0 : List S40) (r : Bool) (w : World) (hr0 : Kd.C k40 w A0 l0.length l0) (hc0 : l0.length ≤ c0) (h : escritoirelaw02_MemoryKeeps.f l0 = some r) :
    Calls Try.prog 7 #[.slice A0 l0.length c0] w fun e w' => e = .returned (.bool r) ∧ Below w.heap.size w w' := by
  unfold escritoirelaw02_MemoryKeeps.f at h
  split at h
  · rename_i hb
    obtain rfl := Option.some.inj h
    exact Mem.MemoryKeeps_calls w A0 c0 l0 hr0 hc0 hb
  · cases h
end Go.Proofs.Ytifdinoioddnlaa.Print
