/- The statement CardsFresh, in the form of the printed rows. -/
import Derived.Test.YtdcmahndbmonbaaPrint0
import Derived.Test.YtdcmahndbmonbaaLwFresh
namespace Go.Proofs.Ytdcmahndbmonbaa.Print
open Go.RowKit Go.Proofs.YtdcmahndbmonbaaW.PrintWords Go.Proofs.YtdcmahndbmonbaaW.PrintLast Go.Proofs.YtdcmahndbmonbaaW.PrintMore
set_option linter.unusedVariables false
noncomputable def escritoirelaw06_CardsFresh.f (a0 : Int) (a1 : Int) : Option Bool := @ite _ (True) (Classical.propDecidable _) (some true) none
theorem escritoirelaw06_CardsFresh.calls (a0 : Int) (a1 : Int) (r : Bool) (w : World) (h : escritoirelaw06_CardsFresh.f a0 a1 = some r) :
    Calls Try.prog 6 #[.int .i64 a0, .int .u64 a1] w fun e w' => e = .returned (.bool r) ∧ Below w.heap.size w w' := by
  unfold escritoirelaw06_CardsFresh.f at h
  split at h
  · rename_i hb
    obtain rfl := Option.some.inj h
    exact Fr.CardsFresh_calls w a0 a1
  · cases h
end Go.Proofs.Ytdcmahndbmonbaa.Print
