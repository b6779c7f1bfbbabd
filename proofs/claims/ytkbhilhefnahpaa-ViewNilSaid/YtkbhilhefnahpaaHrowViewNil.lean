/- The statement ViewNil, in the form of the printed rows. -/
import Derived.Test.YtkbhilhefnahpaaPrint0
import Derived.Test.YtkbhilhefnahpaaLwNil
namespace Go.Proofs.Ytkbhilhefnahpaa.Print
open Go.RowKit Go.Proofs.YtkbhilhefnahpaaW.PrintWords Go.Proofs.YtkbhilhefnahpaaW.PrintLast Go.Proofs.YtkbhilhefnahpaaW.PrintMore
set_option linter.unusedVariables false
noncomputable def escritoirelaw08_ViewNil.f (a0_0 : Int) (a0_1 : Int) (a0_2 : Int) (a0_3 : Int) (a0_4 : Int) (a0_5 : Int) (a0_6 : Int) (a0_7 : Int) (a0_8 : Int) (a0_9 : Int) (a0_10 : Int) (a0_11 : Int) (a0_12 : Int) (l0_13 : List Int) (l0_14 : List Int) (a1 : Int) : Option Bool := @ite _ (True) (Classical.propDecidable _) (some true) none
theorem escritoirelaw08_ViewNil.calls (a0_0 : Int) (a0_1 : Int) (a0_2 : Int) (a0_3 : Int) (a0_4 : Int) (a0_5 : Int) (a0_6 : Int) (a0_7 : Int) (a0_8 : Int) (a0_9 : Int) (a0_10 : Int) (a0_11 : Int) (a0_12 : Int) (A0_13 : Option Addr) (c0_13 : Nat) (l0_13 : List Int) (A0_14 : Option Addr) (c0_14 : Nat) (l0_14 : List Int) (a1 : Int) (r : Bool) (w : World) (hr0_13 : Kd.C (Kd.int .u64) w A0_13 l0_13.length l0_13) (hc0_13 : l0_13.length ≤ c0_13) (hr0_14 : Kd.C (Kd.int .i64) w A0_14 l0_14.length l0_14) (hc0_14 : l0_14.length ≤ c0_14) (h : escritoirelaw08_ViewNil.f a0_0 a0_1 a0_2 a0_3 a0_4 a0_5 a0_6 a0_7 a0_8 a0_9 a0_10 a0_11 a0_12 l0_13 l0_14 a1 = some r) :
    Calls Try.prog 5 #[.agg #[.int .i64 a0_0, .int .i64 a0_1, .int .u64 a0_2, .int .i64 a0_3, .int .i64 a0_4, .int .i64 a0_5, .int .u64 a0_6, .int .i64 a0_7, .int .i64 a0_8, .int .i64 a0_9, .int .i64 a0_10, .int .i64 a0_11, .int .i64 a0_12, .slice A0_13 l0_13.length c0_13, .slice A0_14 l0_14.length c0_14], .int .i64 a1] w fun e w' => e = .returned (.bool r) ∧ Below w.heap.size w w' := by
  unfold escritoirelaw08_ViewNil.f at h
  split at h
  · rename_i hb
    obtain rfl := Option.some.inj h
    exact Vw.ViewNil_calls w a0_0 a0_1 a0_2 ⟨a0_3, a0_4, a0_5, a0_6, a0_7, a0_8, a0_9, a0_10, a0_11, a0_12⟩ _ _ a1
  · cases h
end Go.Proofs.Ytkbhilhefnahpaa.Print
