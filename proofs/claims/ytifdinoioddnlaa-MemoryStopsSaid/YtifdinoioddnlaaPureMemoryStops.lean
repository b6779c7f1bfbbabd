/- The statement MemoryStops over lists alone. -/
import Derived.Test.YtifdinoioddnlaaPrintK
namespace Go.Proofs.Ytifdinoioddnlaa.Pure
open Go Go.RowKit Go.Proofs.Ytifdinoioddnlaa.Print Go.Proofs.YtifdinoioddnlaaW.PrintWords Go.Proofs.YtifdinoioddnlaaW.PrintLast
theorem MemoryStops_oki {v : Int} (h : (Lit.int .i64 v).wf = true) : Mem.oki v := by
  simp [Lit.wf, IntKind.min, IntKind.max, IntKind.bits, IntKind.signed] at h
  unfold Mem.oki
  omega
theorem MemoryStops_okw {v : Int} (h : (Lit.int .u64 v).wf = true) : Mem.okw v := by
  simp [Lit.wf, IntKind.min, IntKind.max, IntKind.bits, IntKind.signed] at h
  unfold Mem.okw
  omega
theorem MemoryStops_op {o : S40} (h : wf40 o) : Mem.okOp o := by
  obtain ⟨h0, h1, h2, h3, h4, _⟩ := h
  exact ⟨MemoryStops_oki h0, MemoryStops_oki h1, MemoryStops_okw h2, by omega⟩
theorem MemoryStops : escritoirelaw02_MemoryStops.Pure := by
  intro l0 a1 h0 h1
  unfold escritoirelaw02_MemoryStops.f
  exact if_pos ⟨fun o ho => MemoryStops_op (h0.2.2 o ho), MemoryStops_oki h1⟩
end Go.Proofs.Ytifdinoioddnlaa.Pure
