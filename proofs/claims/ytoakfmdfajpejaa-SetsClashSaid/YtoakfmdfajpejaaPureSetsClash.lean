/- The statement SetsClash over lists alone. -/
import Derived.Test.YtoakfmdfajpejaaPrintK
namespace Go.Proofs.Ytoakfmdfajpejaa.Pure
open Go Go.RowKit Go.Proofs.Ytoakfmdfajpejaa.Print Go.Proofs.YtoakfmdfajpejaaW.PrintWords Go.Proofs.YtoakfmdfajpejaaW.PrintLast
theorem SetsClash : escritoirelaw15_SetsClash.Pure := by
  intro l0 l1 h0 h1
  unfold escritoirelaw15_SetsClash.f
  exact if_pos ⟨fun x hx => h0.2.2 x hx, fun x hx => h1.2.2 x hx⟩
end Go.Proofs.Ytoakfmdfajpejaa.Pure
