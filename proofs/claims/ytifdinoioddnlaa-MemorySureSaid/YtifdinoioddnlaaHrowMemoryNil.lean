/- The statement MemoryNil, in the form of the printed rows. -/
import Derived.Test.YtifdinoioddnlaaPrint0
import Derived.Test.YtifdinoioddnlaaLawNil
namespace Go.Proofs.Ytifdinoioddnlaa.Print
open Go.RowKit Go.Proofs.YtifdinoioddnlaaW.PrintWords Go.Proofs.YtifdinoioddnlaaW.PrintLast Go.Proofs.YtifdinoioddnlaaW.PrintMore
set_option linter.unusedVariables false
noncomputable def escritoirelaw02_MemoryNil.f (a0_0 : Int) (a0_1 : Int) (a0_2 : Int) (l0_3 : List Bool) : Option Bool := @ite _ (True) (Classical.propDecidable _) (some true) none
theorem escritoirelaw02_MemoryNil.calls (a0_0 : Int) (a0_1 : Int) (a0_2 : Int) (A0_3 : Option Addr) (c0_3 : Nat) (l0_3 : List Bool) (r : Bool) (w : World) (hr0_3 : Kd.C Kd.bool w A0_3 l0_3.length l0_3) (hc0_3 : l0_3.length ≤ c0_3) (h : escritoirelaw02_MemoryNil.f a0_0 a0_1 a0_2 l0_3 = some r) :
    Calls Try.prog 6 #[.agg #[.int .i64 a0_0, .int .i64 a0_1, .int .u64 a0_2, .slice A0_3 l0_3.length c0_3]] w fun e w' => e = .returned (.bool r) ∧ Below w.heap.size w w' := by
  unfold escritoirelaw02_MemoryNil.f at h
  split at h
  · rename_i hb
    obtain rfl := Option.some.inj h
    exact Mem.MemoryNil_calls w ⟨a0_0, a0_1, a0_2, l0_3⟩ A0_3 c0_3 hr0_3 hc0_3
  · cases h
end Go.Proofs.Ytifdinoioddnlaa.Print
