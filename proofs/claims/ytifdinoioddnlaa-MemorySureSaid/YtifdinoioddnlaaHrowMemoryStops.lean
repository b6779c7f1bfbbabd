/- The statement MemoryStops, in the form of the printed rows. -/
import Derived.Test.YtifdinoioddnlaaPrint0
import Derived.Test.YtifdinoioddnlaaLawStops
namespace Go.Proofs.Ytifdinoioddnlaa.Print
open Go.RowKit Go.Proofs.YtifdinoioddnlaaW.PrintWords Go.Proofs.YtifdinoioddnlaaW.PrintLast Go.Proofs.YtifdinoioddnlaaW.PrintMore
set_option linter.unusedVariables false
noncomputable def escritoirelaw02_MemoryStops.f (l0 : List S40) (a1 : Int) : Option Bool := @ite _ ((∀ o ∈ l0, Mem.okOp o) ∧ Mem.oki a1) (Classical.propDecidable _) (some true) none
theorem escritoirelaw02_MemoryStops.calls (A0 : Option Addr) (c0 : Nat) (l0 : List S40) (a1 : Int) (r : Bool) (w : World) (hr0 : Kd.C k40 w A0 l0.length l0) (hc0 : l0.length ≤ c0) (h : escritoirelaw02_MemoryStops.f l0 a1 = some r) :
    Calls Try.prog 5 #[.slice A0 l0.length c0, .int .i64 a1] w fun e w' => e = .returned (.bool r) ∧ Below w.heap.size w w' := by
  unfold escritoirelaw02_MemoryStops.f at h
  split at h
  · rename_i hb
    obtain rfl := Option.some.inj h
    exact Mem.MemoryStops_calls w A0 c0 l0 a1 hr0 hc0 hb.1 hb.2
  · cases h
end Go.Proofs.Ytifdinoioddnlaa.Print
