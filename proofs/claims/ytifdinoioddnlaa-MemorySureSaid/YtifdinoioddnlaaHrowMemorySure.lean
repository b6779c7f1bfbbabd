/- The statement MemorySure, in the form of the printed rows. -/
import Derived.Test.YtifdinoioddnlaaPrint0
import Derived.Test.YtifdinoioddnlaaLawSure
namespace Go.Proofs.Ytifdinoioddnlaa.Print
open Go.RowKit Go.Proofs.YtifdinoioddnlaaW.PrintWords Go.Proofs.YtifdinoioddnlaaW.PrintLast Go.Proofs.YtifdinoioddnlaaW.PrintMore
set_option linter.unusedVariables false
noncomputable def escritoirelaw02_MemorySure.f (l0 : List S40) (l1 : List S40) (l2 : List Bool) : Option Bool := @ite _ ((∀ o ∈ l0, Mem.okOp o) ∧ (∀ o ∈ l1, Mem.okOp o) ∧ l2.length ≤ 140737488355328) (Classical.propDecidable _) (some true) none
theorem escritoirelaw02_MemorySure.calls (A0 : Option Addr) (c0 : Nat) (l0 : List S40) (A1 : Option Addr) (c1 : Nat) (l1 : List S40) (A2 : Option Addr) (c2 : Nat) (l2 : List Bool) (r : Bool) (w : World) (hr0 : Kd.C k40 w A0 l0.length l0) (hc0 : l0.length ≤ c0) (hr1 : Kd.C k40 w A1 l1.length l1) (hc1 : l1.length ≤ c1) (hr2 : Kd.C Kd.bool w A2 l2.length l2) (hc2 : l2.length ≤ c2) (h : escritoirelaw02_MemorySure.f l0 l1 l2 = some r) :
    Calls Try.prog 4 #[.slice A0 l0.length c0, .slice A1 l1.length c1, .slice A2 l2.length c2] w fun e w' => e = .returned (.bool r) ∧ Below w.heap.size w w' := by
  unfold escritoirelaw02_MemorySure.f at h
  split at h
  · rename_i hb
    obtain rfl := Option.some.inj h
    exact Mem.MemorySure_calls w A0 c0 l0 A1 c1 l1 A2 c2 l2 hr0 hc0 hr1 hc1 hr2 hc2 hb.1 hb.2.1 hb.2.2
  · cases h
end Go.Proofs.Ytifdinoioddnlaa.Print
