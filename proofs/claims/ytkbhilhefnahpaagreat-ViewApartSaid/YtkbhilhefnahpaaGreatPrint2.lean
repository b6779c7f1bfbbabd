import Derived.Test.YtkbhilhefnahpaaGreatPrint0
namespace Go.Proofs.YtkbhilhefnahpaaGreat.Print
open Go.RowKit Go.Proofs.YtkbhilhefnahpaaGreatW.PrintWords Go.Proofs.YtkbhilhefnahpaaGreatW.PrintLast Go.Proofs.YtkbhilhefnahpaaGreatW.PrintMore
attribute [local go_sem] yS yR Zq Zp yH yG Zb Za   -- for this text's walks alone
set_option linter.unusedVariables false
set_option linter.unusedSimpArgs false

theorem eqA50 (d : Nat) (w : World) (x0 y0 : Int) (x1 y1 : Int) :
  (Op.equalIn (d + 2) 50 (.agg #[.int .i64 x0, .int .u64 x1]) (.agg #[.int .i64 y0, .int .u64 y1])).run Tryz.prog w = .ok (x0 == y0 && (x1 == y1)) w := by
 refine eqA_of Tryz.underlying50 (by kernel_rfl) ?_
 refine Zj (by rfl) (by go_simp; rfl) (by go_simp; rfl) (by go_simp) ?_
 exact eqf_last (by rfl) (by go_simp; rfl) (by go_simp; rfl) (by go_simp)
end Go.Proofs.YtkbhilhefnahpaaGreat.Print
