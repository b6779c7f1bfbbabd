/- The statement StoreBack over lists alone. -/
import Derived.Test.YtpkfdoefpmgfiaaPrintK
namespace Go.Proofs.Ytpkfdoefpmgfiaa.Pure
open Go Go.RowKit Go.Proofs.Ytpkfdoefpmgfiaa.Print Go.Proofs.YtpkfdoefpmgfiaaW.PrintWords Go.Proofs.YtpkfdoefpmgfiaaW.PrintLast
theorem StoreBack_okw {v : Int} (h : (Lit.int .u64 v).wf = true) : Mem.okw v := by
  simp [Lit.wf, IntKind.min, IntKind.max, IntKind.bits, IntKind.signed] at h
  unfold Mem.okw
  omega
theorem StoreBack : escritoirelaw09_StoreBack.Pure := by
  intro l0 a1 h0 h1
  unfold escritoirelaw09_StoreBack.f
  exact if_pos fun x hx => StoreBack_okw (h0.2.2 x hx).2
end Go.Proofs.Ytpkfdoefpmgfiaa.Pure
