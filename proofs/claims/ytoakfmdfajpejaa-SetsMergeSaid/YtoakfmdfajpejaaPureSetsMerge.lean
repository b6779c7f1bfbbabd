/- The statement SetsMerge over lists alone. -/
import Derived.Test.YtoakfmdfajpejaaPrintK
namespace Go.Proofs.Ytoakfmdfajpejaa.Pure
open Go Go.RowKit Go.Proofs.Ytoakfmdfajpejaa.Print Go.Proofs.YtoakfmdfajpejaaW.PrintWords Go.Proofs.YtoakfmdfajpejaaW.PrintLast
theorem SetsMerge : escritoirelaw15_SetsMerge.Pure := by
  intro l0 l1 l2 h0 h1 h2
  unfold escritoirelaw15_SetsMerge.f
  exact if_pos ⟨fun x hx => h0.2.2 x hx, fun x hx => h1.2.2 x hx, fun x hx => h2.2.2 x hx, by have := h2.1; have := h2.2.1; omega⟩
end Go.Proofs.Ytoakfmdfajpejaa.Pure
