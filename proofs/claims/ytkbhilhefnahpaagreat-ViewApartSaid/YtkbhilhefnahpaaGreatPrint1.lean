import Derived.Test.YtkbhilhefnahpaaGreatPrint0
namespace Go.Proofs.YtkbhilhefnahpaaGreat.Print
open Go.RowKit Go.Proofs.YtkbhilhefnahpaaGreatW.PrintWords Go.Proofs.YtkbhilhefnahpaaGreatW.PrintLast Go.Proofs.YtkbhilhefnahpaaGreatW.PrintMore
attribute [local go_sem] yS yR Zq Zp yH yG Zb Za   -- for this text's walks alone
set_option linter.unusedVariables false
set_option linter.unusedSimpArgs false

theorem eqA35 (d : Nat) (w : World) (x0 y0 : Int) (x1 y1 : Int) (x2 y2 : Int) (x3 y3 : Int) (x4 y4 : Int) :
  (Op.equalIn (d + 2) 35 (.agg #[.int .i64 x0, .int .i64 x1, .int .i64 x2, .int .i64 x3, .int .i64 x4]) (.agg #[.int .i64 y0, .int .i64 y1, .int .i64 y2, .int .i64 y3, .int .i64 y4])).run Tryz.prog w = .ok (x0 == y0 && (x1 == y1 && (x2 == y2 && (x3 == y3 && (x4 == y4))))) w := by
 refine eqR_of (is := [0, 1, 2, 3, 4]) (c := 1) Tryz.underlying35 (by kernel_rfl) (by kernel_rfl) (by kernel_rfl) ?_
 refine Zz (by go_simp; rfl) (by go_simp; rfl) (by go_simp) ?_
 refine Zz (by go_simp; rfl) (by go_simp; rfl) (by go_simp) ?_
 refine Zz (by go_simp; rfl) (by go_simp; rfl) (by go_simp) ?_
 refine Zz (by go_simp; rfl) (by go_simp; rfl) (by go_simp) ?_
 exact eqi_last (by go_simp; rfl) (by go_simp; rfl) (by go_simp)
theorem eqA37 (d : Nat) (w : World) (x0 y0 : Int) (x1 y1 : Int) (x2 y2 : Int) (x3 y3 : Int) (x4 y4 : Int) (x5 y5 : Int) (x6 y6 : Int) (x7 y7 : Int) (x8 y8 : Int) (x9 y9 : Int) :
  (Op.equalIn (d + 3) 37 (.agg #[.int .i64 x0, .int .i64 x1, .int .i64 x2, .int .u64 x3, .int .i64 x4, .int .i64 x5, .int .i64 x6, .int .i64 x7, .int .i64 x8, .int .i64 x9]) (.agg #[.int .i64 y0, .int .i64 y1, .int .i64 y2, .int .u64 y3, .int .i64 y4, .int .i64 y5, .int .i64 y6, .int .i64 y7, .int .i64 y8, .int .i64 y9])).run Tryz.prog w = .ok (x0 == y0 && (x1 == y1 && (x2 == y2 && (x3 == y3 && ((x4 == y4 && (x5 == y5 && (x6 == y6 && (x7 == y7 && (x8 == y8))))) && (x9 == y9)))))) w := by
 refine eqA_of Tryz.underlying37 (by kernel_rfl) ?_
 refine Zj (by rfl) (by go_simp; rfl) (by go_simp; rfl) (by go_simp) ?_
 refine Zj (by rfl) (by go_simp; rfl) (by go_simp; rfl) (by go_simp) ?_
 refine Zj (by rfl) (by go_simp; rfl) (by go_simp; rfl) (by go_simp) ?_
 refine Zj (by rfl) (by go_simp; rfl) (by go_simp; rfl) (by go_simp) ?_
 refine Zj (by rfl) (by go_simp) (by go_simp) (eqA35 (d + 0) w _ _ _ _ _ _ _ _ _ _) ?_
 exact eqf_last (by rfl) (by go_simp; rfl) (by go_simp; rfl) (by go_simp)
end Go.Proofs.YtkbhilhefnahpaaGreat.Print
