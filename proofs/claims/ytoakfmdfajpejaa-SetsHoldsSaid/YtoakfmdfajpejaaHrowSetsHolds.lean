/- The statement SetsHolds, in the form of the printed rows. -/
import Derived.Test.YtoakfmdfajpejaaPrint0
import Derived.Test.YtoakfmdfajpejaaLwHolds
namespace Go.Proofs.Ytoakfmdfajpejaa.Print
open Go.RowKit Go.Proofs.YtoakfmdfajpejaaW.PrintWords Go.Proofs.YtoakfmdfajpejaaW.PrintLast Go.Proofs.YtoakfmdfajpejaaW.PrintMore
set_option linter.unusedVariables false
noncomputable def escritoirelaw15_SetsHolds.f (l0 : List S50) (l1 : List Int) (a2 : Int) : Option Bool := @ite _ ((∀ y ∈ l0, Sets.okn y.f0 ∧ Sets.okn y.f1) ∧ (∀ x ∈ l1, Sets.okn x) ∧ Sets.okn a2 ∧ l0.length ≤ 9223372036854775806) (Classical.propDecidable _) (some true) none
theorem escritoirelaw15_SetsHolds.calls (A0 : Option Addr) (c0 : Nat) (l0 : List S50) (A1 : Option Addr) (c1 : Nat) (l1 : List Int) (a2 : Int) (r : Bool) (w : World) (hr0 : Kd.C k50 w A0 l0.length l0) (hc0 : l0.length ≤ c0) (hr1 : Kd.C (Kd.int .i64) w A1 l1.length l1) (hc1 : l1.length ≤ c1) (h : escritoirelaw15_SetsHolds.f l0 l1 a2 = some r) :
    Calls Try.prog 5 #[.slice A0 l0.length c0, .slice A1 l1.length c1, .int .i64 a2] w fun e w' => e = .returned (.bool r) ∧ Below w.heap.size w w' := by
  unfold escritoirelaw15_SetsHolds.f at h
  split at h
  · rename_i hb
    obtain rfl := Option.some.inj h
    exact Sets.SetsHolds_calls w A0 c0 l0 A1 c1 l1 a2 hr0 hc0 hb.2.2.2 hb.1 hr1 hc1 hb.2.1 hb.2.2.1
  · cases h
end Go.Proofs.Ytoakfmdfajpejaa.Print
