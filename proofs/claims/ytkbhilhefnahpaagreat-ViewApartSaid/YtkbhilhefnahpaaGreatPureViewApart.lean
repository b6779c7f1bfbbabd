/- The statement ViewApart over lists alone. -/
import Derived.Test.YtkbhilhefnahpaaGreatPrintK
namespace Go.Proofs.YtkbhilhefnahpaaGreat.Pure
open Go Go.RowKit Go.Proofs.YtkbhilhefnahpaaGreat.Print Go.Proofs.YtkbhilhefnahpaaGreatW.PrintWords Go.Proofs.YtkbhilhefnahpaaGreatW.PrintLast
theorem Zc {v : Int} (h : (Lit.int .u64 v).wf = true) : Mem.okw v := by
 simp [Lit.wf, IntKind.min, IntKind.max, IntKind.bits, IntKind.signed] at h
 unfold Mem.okw
 omega
theorem Zl {v : Int} (h : (Lit.int .i64 v).wf = true) : Mem.oki v := by
 simp [Lit.wf, IntKind.min, IntKind.max, IntKind.bits, IntKind.signed] at h
 unfold Mem.oki
 omega
theorem ViewApart : escritoirelaw08_ViewApart.Pure := by
 intro l0 l1 a2 h0 h1 h2
 unfold escritoirelaw08_ViewApart.f
 refine if_pos ⟨fun x hx => ?_, fun x hx => ?_, Zl h2⟩
 ·obtain ⟨a, b, c, d, e, g⟩ := h0.2.2 x hx
  exact ⟨Zl b, Zc c, Zc d.2.2.2.1, fun v hv => Zc (e.2.2 v hv), fun v hv => Zl (g.2.2 v hv)⟩
 ·obtain ⟨a, b, c, d, e, g⟩ := h1.2.2 x hx
  exact ⟨Zl b, Zc c, Zc d.2.2.2.1, fun v hv => Zc (e.2.2 v hv), fun v hv => Zl (g.2.2 v hv)⟩
end Go.Proofs.YtkbhilhefnahpaaGreat.Pure
