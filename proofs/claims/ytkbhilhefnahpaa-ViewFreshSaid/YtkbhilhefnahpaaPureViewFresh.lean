/- The statement ViewFresh over lists alone. -/
import Derived.Test.YtkbhilhefnahpaaPrintK
namespace Go.Proofs.Ytkbhilhefnahpaa.Pure
open Go Go.RowKit Go.Proofs.Ytkbhilhefnahpaa.Print Go.Proofs.YtkbhilhefnahpaaW.PrintWords Go.Proofs.YtkbhilhefnahpaaW.PrintLast
theorem ViewFresh_okw {v : Int} (h : (Lit.int .u64 v).wf = true) : Mem.okw v := by
  simp [Lit.wf, IntKind.min, IntKind.max, IntKind.bits, IntKind.signed] at h
  unfold Mem.okw
  omega
theorem ViewFresh : escritoirelaw08_ViewFresh.Pure := by
  intro a0 a1 h0 h1
  unfold escritoirelaw08_ViewFresh.f
  exact if_pos (ViewFresh_okw h1)
end Go.Proofs.Ytkbhilhefnahpaa.Pure
