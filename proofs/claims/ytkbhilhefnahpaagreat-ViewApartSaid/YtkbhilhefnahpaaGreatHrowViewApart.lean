/- The statement ViewApart, in the form of the printed rows. -/
import Derived.Test.YtkbhilhefnahpaaGreatPrint0
import Derived.Test.YtkbhilhefnahpaaGreatLwApart
namespace Go.Proofs.YtkbhilhefnahpaaGreat.Print
open Go.RowKit Go.Proofs.YtkbhilhefnahpaaGreatW.PrintWords Go.Proofs.YtkbhilhefnahpaaGreatW.PrintLast Go.Proofs.YtkbhilhefnahpaaGreatW.PrintMore
set_option linter.unusedVariables false
noncomputable def escritoirelaw08_ViewApart.f (l0 : List S40) (l1 : List S40) (a2 : Int) : Option Bool := @ite _ ((∀ x ∈ l0, Rf.opIn x) ∧ (∀ x ∈ l1, Rf.opIn x) ∧ Mem.oki a2) (Classical.propDecidable _) (some true) none
theorem escritoirelaw08_ViewApart.calls (A0 : Option Addr) (c0 : Nat) (l0 : List S40) (A1 : Option Addr) (c1 : Nat) (l1 : List S40) (a2 : Int) (r : Bool) (w : World) (hr0 : Kd.C k40 w A0 l0.length l0) (hc0 : l0.length ≤ c0) (hr1 : Kd.C k40 w A1 l1.length l1) (hc1 : l1.length ≤ c1) (h : escritoirelaw08_ViewApart.f l0 l1 a2 = some r) :
  Calls Tryz.prog 3 #[.slice A0 l0.length c0, .slice A1 l1.length c1, .int .i64 a2] w fun e w' => e = .returned (.bool r) ∧ Below w.heap.size w w' := by
 unfold escritoirelaw08_ViewApart.f at h
 split at h
 ·rename_i hb
  obtain rfl := Option.some.inj h
  exact Rf.ViewApart_calls w A0 c0 l0 A1 c1 l1 a2 hr0 hc0 hb.1 hr1 hc1 hb.2.1 hb.2.2
 ·cases h
end Go.Proofs.YtkbhilhefnahpaaGreat.Print
