import Derived.Test.YtkbhilhefnahpaaPrint0
namespace Go.Proofs.Ytkbhilhefnahpaa.Print
open Go.RowKit Go.Proofs.YtkbhilhefnahpaaW.PrintWords Go.Proofs.YtkbhilhefnahpaaW.PrintLast Go.Proofs.YtkbhilhefnahpaaW.PrintMore
attribute [local go_sem] Zd Zc ZF ZE yV yU Zk Zj   -- for this text's walks alone
set_option linter.unusedVariables false
set_option linter.unusedSimpArgs false

theorem eqA43 (d : Nat) (w : World) (x0 y0 : Int) (x1 y1 : Int) (x2 y2 : Int) (x3 y3 : Int) (x4 y4 : Int) :
  (Op.equalIn (d + 2) 43 (.agg #[.int .i64 x0, .int .i64 x1, .int .i64 x2, .int .i64 x3, .int .i64 x4]) (.agg #[.int .i64 y0, .int .i64 y1, .int .i64 y2, .int .i64 y3, .int .i64 y4])).run Try.prog w = .ok (x0 == y0 && (x1 == y1 && (x2 == y2 && (x3 == y3 && (x4 == y4))))) w := by
 refine eqR_of (is := [0, 1, 2, 3, 4]) (c := 1) Try.underlying43 (by kernel_rfl) (by kernel_rfl) (by kernel_rfl) ?_
 refine ZA (by go_simp; rfl) (by go_simp; rfl) (by go_simp) ?_
 refine ZA (by go_simp; rfl) (by go_simp; rfl) (by go_simp) ?_
 refine ZA (by go_simp; rfl) (by go_simp; rfl) (by go_simp) ?_
 refine ZA (by go_simp; rfl) (by go_simp; rfl) (by go_simp) ?_
 exact eqi_last (by go_simp; rfl) (by go_simp; rfl) (by go_simp)
theorem eqA45 (d : Nat) (w : World) (x0 y0 : Int) (x1 y1 : Int) (x2 y2 : Int) (x3 y3 : Int) (x4 y4 : Int) (x5 y5 : Int) (x6 y6 : Int) (x7 y7 : Int) (x8 y8 : Int) (x9 y9 : Int) :
  (Op.equalIn (d + 3) 45 (.agg #[.int .i64 x0, .int .i64 x1, .int .i64 x2, .int .u64 x3, .int .i64 x4, .int .i64 x5, .int .i64 x6, .int .i64 x7, .int .i64 x8, .int .i64 x9]) (.agg #[.int .i64 y0, .int .i64 y1, .int .i64 y2, .int .u64 y3, .int .i64 y4, .int .i64 y5, .int .i64 y6, .int .i64 y7, .int .i64 y8, .int .i64 y9])).run Try.prog w = .ok (x0 == y0 && (x1 == y1 && (x2 == y2 && (x3 == y3 && ((x4 == y4 && (x5 == y5 && (x6 == y6 && (x7 == y7 && (x8 == y8))))) && (x9 == y9)))))) w := by
 refine eqA_of Try.underlying45 (by kernel_rfl) ?_
 refine Zr (by rfl) (by go_simp; rfl) (by go_simp; rfl) (by go_simp) ?_
 refine Zr (by rfl) (by go_simp; rfl) (by go_simp; rfl) (by go_simp) ?_
 refine Zr (by rfl) (by go_simp; rfl) (by go_simp; rfl) (by go_simp) ?_
 refine Zr (by rfl) (by go_simp; rfl) (by go_simp; rfl) (by go_simp) ?_
 refine Zr (by rfl) (by go_simp) (by go_simp) (eqA43 (d + 0) w _ _ _ _ _ _ _ _ _ _) ?_
 exact eqf_last (by rfl) (by go_simp; rfl) (by go_simp; rfl) (by go_simp)
end Go.Proofs.Ytkbhilhefnahpaa.Print
