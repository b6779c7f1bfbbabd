/- What a patch makes: Of, Make and Back in plain Lean. -/
import Derived.Test.YtldlacphokbgcaaPureBase
namespace Go.Proofs.Ytldlacphokbgcaa.Pure
open Go.RowKit Go.Proofs.Ytldlacphokbgcaa.Print Go.Proofs.YtldlacphokbgcaaW.PrintWords Go.Proofs.YtldlacphokbgcaaW.PrintLast Go.Proofs.YtldlacphokbgcaaW.PrintMore
set_option linter.unusedVariables false
set_option linter.unusedSimpArgs false

/-! ### where two lists differ -/
/-! ### making -/
def put (a : List Int) (c : S31) : List Int := if 0 ≤ c.f0 ∧ c.f0 < (a.length : Int) then a.set c.f0.toNat c.f1 else a
def makeS (a : List Int) (p : List S31) : List Int := p.foldl put a
/-! ### back -/
/-! ### the program's Of -/
theorem mn_nat (a b : Nat) : mn (a : Int) (b : Int) = ((min a b : Nat) : Int) := by unfold mn; split <;> omega
/-! ### the program's Make -/
theorem put_len (a : List Int) (c : S31) : (put a c).length = a.length := by unfold put; split <;> simp
/-! ### Right and Back -/
end Go.Proofs.Ytldlacphokbgcaa.Pure
