/- The statement MemoryKeeps over lists alone. -/
import Derived.Test.YtifdinoioddnlaaPrintK
namespace Go.Proofs.Ytifdinoioddnlaa.Pure
open Go Go.RowKit Go.Proofs.Ytifdinoioddnlaa.Print Go.Proofs.YtifdinoioddnlaaW.PrintWords Go.Proofs.YtifdinoioddnlaaW.PrintLast
theorem MemoryKeeps_oki {v : Int} (h : (Lit.int .i64 v).wf = true) : Mem.oki v := by
  simp [Lit.wf, IntKind.min, IntKind.max, IntKind.bits, IntKind.signed] at h
  unfold Mem.oki
  omega
theorem MemoryKeeps_okw {v : Int} (h : (Lit.int .u64 v).wf = true) : Mem.okw v := by
  simp [Lit.wf, IntKind.min, IntKind.max, IntKind.bits, IntKind.signed] at h
  unfold Mem.okw
  omega
theorem MemoryKeeps_op {o : S40} (h : wf40 o) : Mem.okOp o := by
  obtain ⟨h0, h1, h2, h3, h4, _⟩ := h
  exact ⟨MemoryKeeps_oki h0, MemoryKeeps_oki h1, MemoryKeeps_okw h2, by omega⟩
theorem MemoryKeeps : escritoirelaw02_MemoryKeeps.Pure := by
  intro l0 h0
  unfold escritoirelaw02_MemoryKeeps.f
  exact if_pos fun o ho => MemoryKeeps_op (h0.2.2 o ho)
end Go.Proofs.Ytifdinoioddnlaa.Pure
