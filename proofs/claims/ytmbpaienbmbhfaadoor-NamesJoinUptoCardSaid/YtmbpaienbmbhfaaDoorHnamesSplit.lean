/- names.Split. -/
import Derived.Test.YtmbpaienbmbhfaaDoorPrint0
import Derived.Test.YtmbpaienbmbhfaaDoorStrD
namespace Go.Proofs.YtmbpaienbmbhfaaDoor.Print
open Go.RowKit Go.Proofs.YtmbpaienbmbhfaaDoorW.PrintWords Go.Proofs.YtmbpaienbmbhfaaDoorW.PrintLast Go.Proofs.YtmbpaienbmbhfaaDoorW.PrintMore
set_option linter.unusedVariables false
def names_Split.f (k : Nat) (a0 : ByteArray) : Option (List ByteArray × Int) := Str.nsplitF k a0
theorem names_Split.mono : ∀ a0 k, LeO (names_Split.f k a0) (names_Split.f (k + 1) a0) := fun a0 k => Str.nsplitF_mono a0 k
theorem names_Split.calls (k : Nat) (a0 : ByteArray) (r1 : List ByteArray) (r2 : Int) (w : World) (h : names_Split.f k a0 = some (r1, r2)) :
    Calls Tryd.prog 9 #[.string a0] w fun e w' => ∃ v0_ : Value, e = .returned (.tuple #[v0_, .int .i64 r2]) ∧ Kd.R Kd.string 9 w' w.heap.size (fun _ => True) v0_ r1 ∧ Below w.heap.size w w' := Str.NSplit_calls k a0 r1 r2 w h
end Go.Proofs.YtmbpaienbmbhfaaDoor.Print
