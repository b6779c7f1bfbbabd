/- names.Join. -/
import Derived.Test.YtmbpaienbmbhfaaDoorPrint0
import Derived.Test.YtmbpaienbmbhfaaDoorStrD
namespace Go.Proofs.YtmbpaienbmbhfaaDoor.Print
open Go.RowKit Go.Proofs.YtmbpaienbmbhfaaDoorW.PrintWords Go.Proofs.YtmbpaienbmbhfaaDoorW.PrintLast Go.Proofs.YtmbpaienbmbhfaaDoorW.PrintMore
set_option linter.unusedVariables false
def names_Join.f (k : Nat) (l0 : List ByteArray) : Option (ByteArray × Int) := Str.njoinF k l0
theorem names_Join.mono : ∀ a0 k, LeO (names_Join.f k a0) (names_Join.f (k + 1) a0) := fun a0 k => Str.njoinF_mono a0 k
theorem names_Join.calls (k : Nat) (A0 : Option Addr) (c0 : Nat) (l0 : List ByteArray) (r1 : ByteArray) (r2 : Int) (w : World) (hr0 : Kd.C Kd.string w A0 l0.length l0) (hc0 : l0.length ≤ c0) (h : names_Join.f k l0 = some (r1, r2)) :
    Calls Tryd.prog 15 #[.slice A0 l0.length c0] w fun e w' => e = .returned (.tuple #[.string r1, .int .i64 r2]) ∧ Below w.heap.size w w' := Str.NJoin_calls k A0 c0 l0 r1 r2 w hr0 hc0 h
end Go.Proofs.YtmbpaienbmbhfaaDoor.Print
