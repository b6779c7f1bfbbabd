/- The statement MemorySure over lists alone. -/
import Derived.Test.YtifdinoioddnlaaPrintK
namespace Go.Proofs.Ytifdinoioddnlaa.Pure
open Go Go.RowKit Go.Proofs.Ytifdinoioddnlaa.Print Go.Proofs.YtifdinoioddnlaaW.PrintWords Go.Proofs.YtifdinoioddnlaaW.PrintLast
theorem MemorySure_oki {v : Int} (h : (Lit.int .i64 v).wf = true) : Mem.oki v := by
  simp [Lit.wf, IntKind.min, IntKind.max, IntKind.bits, IntKind.signed] at h
  unfold Mem.oki
  omega
theorem MemorySure_okw {v : Int} (h : (Lit.int .u64 v).wf = true) : Mem.okw v := by
  simp [Lit.wf, IntKind.min, IntKind.max, IntKind.bits, IntKind.signed] at h
  unfold Mem.okw
  omega
theorem MemorySure_op {o : S40} (h : wf40 o) : Mem.okOp o := by
  obtain ⟨h0, h1, h2, h3, h4, _⟩ := h
  exact ⟨MemorySure_oki h0, MemorySure_oki h1, MemorySure_okw h2, by omega⟩
theorem MemorySure : escritoirelaw02_MemorySure.Pure := by
  intro l0 l1 l2 h0 h1 h2
  unfold escritoirelaw02_MemorySure.f
  exact if_pos ⟨fun o ho => MemorySure_op (h0.2.2 o ho), fun o ho => MemorySure_op (h1.2.2 o ho), by have := h2.2.1; omega⟩
end Go.Proofs.Ytifdinoioddnlaa.Pure
