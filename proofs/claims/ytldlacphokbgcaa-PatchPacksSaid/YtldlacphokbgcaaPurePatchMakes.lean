/- PatchMakes in plain Lean. -/
import Derived.Test.YtldlacphokbgcaaPureMakes
namespace Go.Proofs.Ytldlacphokbgcaa.Pure
open Go.RowKit Go.Proofs.Ytldlacphokbgcaa.Print Go.Proofs.YtldlacphokbgcaaW.PrintWords Go.Proofs.YtldlacphokbgcaaW.PrintLast Go.Proofs.YtldlacphokbgcaaW.PrintMore
theorem early60 (p : List S31) : escritoirelaw23_early.f p = some (p.take 60) := by
  unfold escritoirelaw23_early.f
  rw [show (60 : Int) = ((60 : Nat) : Int) from rfl, mn_nat, if_pos (by omega), if_pos (by omega), Int.toNat_natCast, Nat.min_comm, ← List.take_eq_take_min]
end Go.Proofs.Ytldlacphokbgcaa.Pure
