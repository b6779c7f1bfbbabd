/- The statement SetsMerge, in the form of the printed rows. -/
import Derived.Test.YtoakfmdfajpejaaPrint0
import Derived.Test.YtoakfmdfajpejaaLwMerge
namespace Go.Proofs.Ytoakfmdfajpejaa.Print
open Go.RowKit Go.Proofs.YtoakfmdfajpejaaW.PrintWords Go.Proofs.YtoakfmdfajpejaaW.PrintLast Go.Proofs.YtoakfmdfajpejaaW.PrintMore
set_option linter.unusedVariables false
noncomputable def escritoirelaw15_SetsMerge.f (l0 : List Int) (l1 : List Int) (l2 : List Int) : Option Bool := @ite _ ((∀ x ∈ l0, Sets.okn x) ∧ (∀ x ∈ l1, Sets.okn x) ∧ (∀ x ∈ l2, Sets.okw x) ∧ l2.length ≤ 140737488355328) (Classical.propDecidable _) (some true) none
theorem escritoirelaw15_SetsMerge.calls (A0 : Option Addr) (c0 : Nat) (l0 : List Int) (A1 : Option Addr) (c1 : Nat) (l1 : List Int) (A2 : Option Addr) (c2 : Nat) (l2 : List Int) (r : Bool) (w : World) (hr0 : Kd.C (Kd.int .i64) w A0 l0.length l0) (hc0 : l0.length ≤ c0) (hr1 : Kd.C (Kd.int .i64) w A1 l1.length l1) (hc1 : l1.length ≤ c1) (hr2 : Kd.C (Kd.int .u64) w A2 l2.length l2) (hc2 : l2.length ≤ c2) (h : escritoirelaw15_SetsMerge.f l0 l1 l2 = some r) :
    Calls Try.prog 4 #[.slice A0 l0.length c0, .slice A1 l1.length c1, .slice A2 l2.length c2] w fun e w' => e = .returned (.bool r) ∧ Below w.heap.size w w' := by
  unfold escritoirelaw15_SetsMerge.f at h
  split at h
  · rename_i hb
    obtain rfl := Option.some.inj h
    exact Sets.SetsMerge_calls w A0 c0 l0 A1 c1 l1 A2 c2 l2 hr0 hc0 hr1 hc1 hb.1 hb.2.1 ⟨hr2, hc2, hb.2.2.2, hb.2.2.1⟩
  · cases h
end Go.Proofs.Ytoakfmdfajpejaa.Print
