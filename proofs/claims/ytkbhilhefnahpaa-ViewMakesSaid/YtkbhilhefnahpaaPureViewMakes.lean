/- The statement ViewMakes over lists alone. -/
import Derived.Test.YtkbhilhefnahpaaPrintK
namespace Go.Proofs.Ytkbhilhefnahpaa.Pure
open Go Go.RowKit Go.Proofs.Ytkbhilhefnahpaa.Print Go.Proofs.YtkbhilhefnahpaaW.PrintWords Go.Proofs.YtkbhilhefnahpaaW.PrintLast
theorem ZB {v : Int} (h : (Lit.int .u64 v).wf = true) : Mem.okw v := by
 simp [Lit.wf, IntKind.min, IntKind.max, IntKind.bits, IntKind.signed] at h
 unfold Mem.okw
 omega
theorem YW {v : Int} (h : (Lit.int .i64 v).wf = true) : Mem.oki v := by
 simp [Lit.wf, IntKind.min, IntKind.max, IntKind.bits, IntKind.signed] at h
 unfold Mem.oki
 omega
theorem ViewMakes : escritoirelaw08_ViewMakes.Pure := by
 intro l0 l1 h0 h1
 unfold escritoirelaw08_ViewMakes.f
 refine if_pos ⟨fun x hx => ZB (h0.2.2 x hx).2, fun x hx => ?_⟩
 obtain ⟨a, b, c, d, e, g⟩ := h1.2.2 x hx
 exact ⟨YW b, ZB c, ZB d.2.2.2.1, fun v hv => ZB (e.2.2 v hv), fun v hv => YW (g.2.2 v hv)⟩
end Go.Proofs.Ytkbhilhefnahpaa.Pure
