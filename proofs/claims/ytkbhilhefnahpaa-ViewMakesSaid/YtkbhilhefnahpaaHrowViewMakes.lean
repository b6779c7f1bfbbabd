/- The statement ViewMakes, in the form of the printed rows. -/
import Derived.Test.YtkbhilhefnahpaaPrint0
import Derived.Test.YtkbhilhefnahpaaLwMakes
namespace Go.Proofs.Ytkbhilhefnahpaa.Print
open Go.RowKit Go.Proofs.YtkbhilhefnahpaaW.PrintWords Go.Proofs.YtkbhilhefnahpaaW.PrintLast Go.Proofs.YtkbhilhefnahpaaW.PrintMore
set_option linter.unusedVariables false
noncomputable def escritoirelaw08_ViewMakes.f (l0 : List S51) (l1 : List S47) : Option Bool := @ite _ ((∀ x ∈ l0, Mem.okw x.f1) ∧ (∀ x ∈ l1, Rf.opIn x)) (Classical.propDecidable _) (some true) none
theorem escritoirelaw08_ViewMakes.calls (A0 : Option Addr) (c0 : Nat) (l0 : List S51) (A1 : Option Addr) (c1 : Nat) (l1 : List S47) (r : Bool) (w : World) (hr0 : Kd.C k51 w A0 l0.length l0) (hc0 : l0.length ≤ c0) (hr1 : Kd.C k47 w A1 l1.length l1) (hc1 : l1.length ≤ c1) (h : escritoirelaw08_ViewMakes.f l0 l1 = some r) :
  Calls Try.prog 4 #[.slice A0 l0.length c0, .slice A1 l1.length c1] w fun e w' => e = .returned (.bool r) ∧ Below w.heap.size w w' := by
 unfold escritoirelaw08_ViewMakes.f at h
 split at h
 ·rename_i hb
  obtain rfl := Option.some.inj h
  exact Rf.ViewMakes_calls w A0 c0 l0 A1 c1 l1 hr0 hc0 hb.1 hr1 hc1 hb.2
 ·cases h
end Go.Proofs.Ytkbhilhefnahpaa.Print
