/- The statement SetsHolds over lists alone. -/
import Derived.Test.YtoakfmdfajpejaaPrintK
namespace Go.Proofs.Ytoakfmdfajpejaa.Pure
open Go Go.RowKit Go.Proofs.Ytoakfmdfajpejaa.Print Go.Proofs.YtoakfmdfajpejaaW.PrintWords Go.Proofs.YtoakfmdfajpejaaW.PrintLast
theorem SetsHolds : escritoirelaw15_SetsHolds.Pure := by
  intro l0 l1 a2 h0 h1 h2
  unfold escritoirelaw15_SetsHolds.f
  exact if_pos ⟨fun y hy => ⟨(h0.2.2 y hy).1, (h0.2.2 y hy).2⟩, fun x hx => h1.2.2 x hx, h2, by have := h0.1; have := h0.2.1; omega⟩
end Go.Proofs.Ytoakfmdfajpejaa.Pure
