/- The statement MemoryFlushes over lists alone. -/
import Derived.Test.YtifdinoioddnlaaPrintK
namespace Go.Proofs.Ytifdinoioddnlaa.Pure
open Go Go.RowKit Go.Proofs.Ytifdinoioddnlaa.Print Go.Proofs.YtifdinoioddnlaaW.PrintWords Go.Proofs.YtifdinoioddnlaaW.PrintLast
theorem MemoryFlushes_oki {v : Int} (h : (Lit.int .i64 v).wf = true) : Mem.oki v := by
  simp [Lit.wf, IntKind.min, IntKind.max, IntKind.bits, IntKind.signed] at h
  unfold Mem.oki
  omega
theorem MemoryFlushes_okw {v : Int} (h : (Lit.int .u64 v).wf = true) : Mem.okw v := by
  simp [Lit.wf, IntKind.min, IntKind.max, IntKind.bits, IntKind.signed] at h
  unfold Mem.okw
  omega
theorem MemoryFlushes_op {o : S40} (h : wf40 o) : Mem.okOp o := by
  obtain ⟨h0, h1, h2, h3, h4, _⟩ := h
  exact ⟨MemoryFlushes_oki h0, MemoryFlushes_oki h1, MemoryFlushes_okw h2, by omega⟩
theorem MemoryFlushes : escritoirelaw02_MemoryFlushes.Pure := by
  intro l0 h0
  unfold escritoirelaw02_MemoryFlushes.f
  exact if_pos fun o ho => MemoryFlushes_op (h0.2.2 o ho)
end Go.Proofs.Ytifdinoioddnlaa.Pure
